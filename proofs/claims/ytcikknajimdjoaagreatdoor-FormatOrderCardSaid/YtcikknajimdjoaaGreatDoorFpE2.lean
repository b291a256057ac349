import Derived.Test.YtcikknajimdjoaaGreatDoorFpE1
import Derived.Laws.StructEq
import Derived.MapKept
set_option linter.unusedSimpArgs false
set_option linter.unusedVariables false
set_option linter.unusedSectionVars false
namespace Go.Eng
open Go Go.RowKit
section
variable {P:Program} {base:Nat} {okin:Nat->Prop} {σ:Nat->Option (Nat × Nat)} {h:aF} {w:World} {G:Nat->Option J} {F:Nat->J} {a:Act}
theorem MA {i j sz:Nat} (bb:j<sz):(i*sz+j)/sz=i/\(i*sz+j)%sz=j:=by
 have bc:0<sz:=by omega
 constructor
 · rw[Nat.add_comm,Nat.add_mul_div_right _ _ bc,Nat.div_eq_of_lt bb,Nat.zero_add]
 · rw[Nat.add_comm,Nat.add_mul_mod_self_right,Nat.mod_eq_of_lt bb]
theorem xU (H:dd base okin σ h w) {v:J} {cv:Value} (aY:bC w (b5 base okin σ h) σ v cv) {ys:List J} (he:elems h v=some ys) {sz:Nat} (dC:∀e∈ys,e.cells.length=sz) (bc:0<sz):
 ∃A c,cv= .slice A ys.length c/\∃arr,(Builtin.firstCells sz ys.length cv).run P w= .ok arr w/\mK w (b5 base okin σ h) σ sz ys arr:=by
 unfold elems at he
 split at he
 · rename_i xs ex
   injection he with he
   subst he
   have bf:=aY.q0
   cases bf with
   | sl _ _ A c fU eK ae h2 aO a2 cf dS=>
     refine⟨A,c,rfl,?_⟩
     by_cases aS:xs.length=0
     · have av:xs= []:=List.eq_nil_of_length_eq_zero aS
       subst av
       cases A with
       | none=>exact ⟨#[],by simp[Builtin.firstCells],by simp,fun i an=>absurd an (by simp)⟩
       | some c6=>exact ⟨#[],by simp[Builtin.firstCells,loadCells,loadCellsFrom],by simp,fun i an=>absurd an (by simp)⟩
     · have sd:fU=sz:=by
        have:=aO 0 (by omega)
        have:=dC _ (List.getElem_mem (show 0<xs.length by omega))
        omega
       subst sd
       have aU:=cf (by omega)
       obtain⟨c6,rfl⟩:=Option.isSome_iff_exists.1 aU
       have a6:∀k,k<xs.length*fU->w.cell? (c6.add k)=some ((fun k=>eK (k/fU) (k%fU)) k):=by
        intro k aI
        have an:k/fU<xs.length:=Nat.div_lt_of_lt_mul (by rw[Nat.mul_comm];exact aI)
        obtain⟨MB,e,_,I⟩:=a2 (k/fU) (k%fU) an (Nat.mod_lt _ bc)
        cases e
        have:k/fU*fU+k%fU=k:=by rw[Nat.mul_comm];exact Nat.div_add_mod k fU
        rwa [this] at I
       refine⟨_,by simp only[Builtin.firstCells];exact run_loadCells w c6 (xs.length*fU) _ a6,?_⟩
       refine⟨by simp,fun i an=>⟨aO i an,fun j bb aI=>?_⟩⟩
       have kW:j<fU:=by have:=aO i an;omega
       have:=MA (i:=i) kW
       simp only[List.getElem_toArray,List.getElem_map,List.getElem_range,this.1,this.2]
       exact .val _ _ (dS i an j bb)
 · rename_i id off len cap
   split at he<;>try(cases he;done)
   rename_i blk au
   split at he<;>try(cases he;done)
   rename_i hle
   cases he
   obtain⟨A,c,b,cR,rfl,aj,aq,aW,bW⟩:=aY.q1
   have hlen:((blk.drop off).take len).length=len:=by simp;omega
   rw[hlen]
   refine⟨A,c,rfl,?_⟩
   by_cases aS:len=0
   · subst aS
     refine⟨#[],?_,by simp,fun i an=>absurd an (by simp)⟩
     cases A with
     | none=>simp[Builtin.firstCells]
     | some c6=>simp[Builtin.firstCells,loadCells,loadCellsFrom]
   · obtain⟨gF,fU,arr,ty,f1,f2,f3⟩:=H.blk id blk au
     rw[aj] at f1;cases f1
     have lE:∀i,i<len->∃an:off+i<blk.length,blk[off+i].cells.length=sz:=by
      intro i an
      refine⟨by omega,dC _ ?_⟩
      have:(((blk.drop off).take len)[i]'(by rw[hlen];exact an))=blk[off+i]'(by omega):=by simp
      rw[<-this];exact List.getElem_mem _
     have sd:cR=sz:=by
      obtain⟨an,e⟩:=lE 0 (by omega)
      have:=(f3 _ an).1;omega
     subst sd
     obtain⟨rfl,_⟩:=bW (by omega)
     have a6:∀k,k<len*cR->w.cell? ((⟨b,off*cR,none⟩:Addr).add k)=some ((fun k=>(arr[off*cR+k]?).getD undef) k):=by
      intro k aI
      have an:k/cR<len:=Nat.div_lt_of_lt_mul (by rw[Nat.mul_comm];exact aI)
      obtain⟨cC,e⟩:=lE _ an
      have hm:=Nat.mod_lt k bc
      obtain⟨mo,ba,_⟩:=(f3 _ cC).2 (k%cR) (by omega)
      have:(off+k/cR)*cR+k%cR=off*cR+k:=by rw[Nat.add_mul,Nat.add_assoc];congr 1;rw[Nat.mul_comm];exact Nat.div_add_mod k cR
      rw[this] at ba
      rw[p_]
      simp only[World.cell?,f2,Option.isSome_none,Bool.false_eq_true,if_false]
      rw[ba];rfl
     refine⟨_,by simp only[Builtin.firstCells];exact run_loadCells w ⟨b,off*cR,none⟩ (len*cR) _ a6,?_⟩
     refine⟨by simp[hlen],fun i an=>?_⟩
     have MC:i<len:=by rw[hlen] at an;exact an
     obtain⟨cC,e⟩:=lE i MC
     have cc:((blk.drop off).take len)[i]=blk[off+i]'(by omega):=by simp
     rw[cc]
     refine⟨e,fun j bb aI=>?_⟩
     obtain⟨mo,ba,br⟩:=(f3 _ cC).2 j bb
     have:(off+i)*cR+j=off*cR+(i*cR+j):=by rw[Nat.add_mul];omega
     rw[this] at ba
     simp only[List.getElem_toArray,List.getElem_map,List.getElem_range]
     rw[ba];exact br
 · cases he
theorem D6 (n:Nat):∀(r c:Nat),256<=c->c<=2*n->Builtin.growBy n r c<=2*n
 | 0,c,_,h=>h
 | r+1,c,ae,h2=>by
   unfold Builtin.growBy
   split
   · exact h2
   · exact D6 n r _ (by omega) (by omega)
theorem MD {n c:Nat} (h:c<n):Builtin.nextslicecap n c<=2*n:=by
 unfold Builtin.nextslicecap
 split
 · omega
 · split
   · omega
   · exact D6 n 4 c (by omega) (by omega)
theorem mK.append {ok:Nat->Prop} {sz:Nat} {xs ys:List J} {a1 cP:Array Value} (ae:mK w ok σ sz xs a1) (h2:mK w ok σ sz ys cP):mK w ok σ sz (xs++ys) (a1++cP):=by
 refine⟨by simp[ae.1,h2.1,Nat.add_mul],fun i an=>?_⟩
 by_cases av:i<xs.length
 · have e:(xs++ys)[i]=xs[i]:=List.getElem_append_left av
   rw[e]
   refine⟨(ae.2 i av).1,fun j bb aI=>?_⟩
   have b6:i*sz+j<a1.size:=by rw[ae.1];exact py av (by have:=(ae.2 i av).1;omega)
   rw[Array.getElem_append_left b6]
   exact (ae.2 i av).2 j bb b6
 · have bj:i - xs.length<ys.length:=by simp at an;omega
   have e:(xs++ys)[i]=ys[i - xs.length]:=List.getElem_append_right (by omega)
   rw[e]
   refine⟨(h2.2 _ bj).1,fun j bb aI=>?_⟩
   have hle:xs.length*sz<=i*sz:=Nat.mul_le_mul_right _ (by omega)
   have b6:(i - xs.length)*sz+j<cP.size:=by rw[h2.1];exact py bj (by have:=(h2.2 _ bj).1;omega)
   have sf:a1.size<=i*sz+j:=by rw[ae.1];omega
   rw[Array.getElem_append_right sf]
   have aq:i*sz+j - a1.size=(i - xs.length)*sz+j:=by rw[ae.1,Nat.sub_mul];omega
   simp only[aq]
   exact (h2.2 _ bj).2 j bb b6
theorem D7 {t u e e':TypeId} (a':P.underlying t=some (.slice e)) (hu:P.underlying u=some (.slice e')) {sz bytes:Nat} (aP:ha P e=some sz) (au:z7 P e=some bytes) {z:J} (aV:zeroOf P e=some z)
 (A:Option Addr) (n c:Nat) (B:Option Addr) (m d:Nat) (D8:c<n+m) (e9:0<bytes) (sb:(n+m)*bytes<=35184372088832) {mL new:Array Value}
 (a4:(Builtin.firstCells sz n (.slice A n c)).run P w.drew= .ok mL w.drew) (aC:(Builtin.firstCells sz m (.slice B m d)).run P w.drew= .ok new w.drew):
 ∃sg rest,n+m<=sg/\(Builtin.append_ #[t,u] t #[.slice A n c,.slice B m d]).run P w= .ok (.slice (some ⟨w.heap.size,0,none⟩) (n+m) sg) (w.drew.alloc (.cells (mL++new++rest) e))/\(rest.size=(sg -(n+m))*z.cells.length):=by
 obtain⟨a7,b7,c3,sc,_⟩:=tO (P:=P) (w:=w.drew) (σ:=fun _=>none) (ok:=fun _=>True) aV
 obtain⟨i,an,Zi⟩:=Option.map_eq_some_iff.1 aP
 have Aq:i.bytes=bytes:=by
  obtain⟨g0,aj,aq⟩:=Option.map_eq_some_iff.1 au
  rw[an] at aj;cases aj;exact aq
 have D9:=MD D8
 have ME:¬(Builtin.nextslicecap (n+m) c*i.bytes>2^48):=by
  rw[Aq]
  have:Builtin.nextslicecap (n+m) c*bytes<=2*(n+m)*bytes:=Nat.mul_le_mul_right _ D9
  rw[Nat.mul_assoc] at this
  omega
 have ae:¬(n+m<=c):=by omega
 have ld:i.bytes≠0:=by omega
 refine⟨(Question.appendCap (n+m) c e).cut (w.tape w.drawn (.appendCap (n+m) c e)),Builtin.zeroCells a7.cells ((Question.appendCap (n+m) c e).cut (w.tape w.drawn (.appendCap (n+m) c e)) -(n+m)),by simp[Question.cut],?_,by simp[Builtin.zeroCells,c3.1]⟩
 simp[Builtin.append_,run_underlying a',run_underlying hu,run_sizeOf aP,Builtin.lenOf,run_typeInfo an,ae,ld,ME,Question.forced,a4,aC,b7,newRow]
theorem dd.drew (H:dd base okin σ h w):dd base okin σ h w.drew/\Prog base okin σ h w σ h w.drew:=by
 have P:Prog base okin σ h w σ h w.drew:=⟨fun _ _ x=>x,fun _ _ a4=>⟨a4,rfl⟩,(Below.refl _ _).drew,fun _=>Nat.le_refl _⟩
 refine⟨⟨H.val,fun id gk gH=>?_,H.inj,H.base⟩,P⟩
 obtain⟨b,s,a,t,aj,aq,aW⟩:=H.blk id gk gH
 refine⟨b,s,a,t,aj,aq,fun i an=>⟨(aW i an).1,fun j bb=>?_⟩⟩
 obtain⟨v,f1,f2⟩:=(aW i an).2 j bb
 exact ⟨v,f1,P.rep f2⟩
theorem dd.kill (H:dd base okin σ h w) (id:Nat):dd base okin σ {h with cells:=aG h.cells id none} w/\Prog base okin σ h w σ {h with cells:=aG h.cells id none} w:=by
 have P:Prog base okin σ h w σ {h with cells:=aG h.cells id none} w:=by
  refine⟨fun _ _ x=>x,fun b au a4=>⟨?_,rfl⟩,Below.refl _ _,fun _=>Nat.le_refl _⟩
  rcases a4 with a4|⟨ae,h2⟩
  · exact .inl a4
  · refine .inr ⟨ae,fun i s aP a6=>h2 i s aP ?_⟩
    by_cases e:i=id
    · simp[aG,e] at a6
    · simpa[aG,e] using a6
 refine⟨⟨H.val,fun i gk gH=>?_,fun i g0 b s aD ae h2=>H.inj i g0 b s aD ?_ ?_,H.base⟩,P⟩
 · by_cases e:i=id
   · simp[aG,e] at gH
   · have p9:h.cells i=some gk:=by simpa[aG,e] using gH
     obtain⟨b,s,a,t,aj,aq,aW⟩:=H.blk i gk p9
     refine⟨b,s,a,t,aj,aq,fun i an=>⟨(aW i an).1,fun j bb=>?_⟩⟩
     obtain⟨v,f1,f2⟩:=(aW i an).2 j bb
     exact ⟨v,f1,P.rep f2⟩
 · by_cases e:i=id
   · simp[aG,e] at ae
   · simpa[aG,e] using ae
 · by_cases e:g0=id
   · simp[aG,e] at h2
   · simpa[aG,e] using h2
theorem mK.cell {ok:Nat->Prop} {sz:Nat} {es:List J} {arr:Array Value} (H:mK w ok σ sz es arr) (rest:Array Value) (i:Nat) (an:i<es.length):
 es[i].cells.length=sz/\∀j (bb:j<es[i].cells.length),∃v,(arr++rest)[i*sz+j]? =some v/\bC w ok σ (es[i].cells[j]) v:=by
 refine⟨(H.2 i an).1,fun j bb=>?_⟩
 have b6:i*sz+j<arr.size:=by rw[H.1];exact py an (by have:=(H.2 i an).1;omega)
 exact ⟨_,by rw[Array.getElem?_append_left b6];exact Array.getElem?_eq_getElem b6,(H.2 i an).2 j bb b6⟩
theorem xV {ys:List J} {sz:Nat} (h:(ys.all fun e=>e.cells.length == sz)=true):∀e∈ys,e.cells.length=sz:=fun e he=>by
 simpa using List.all_eq_true.1 h e he
theorem mK.vU {ok:Nat->Prop} {sz:Nat} {es:List J} {arr:Array Value} (H:mK w ok σ sz es arr) (bc:0<sz) (aP:∀e∈es,e.cells.all J.dp=true):∀v∈arr.toList,v.oneCell'=true:=by
 intro v aY
 obtain⟨k,aI,rfl⟩:=List.getElem_of_mem aY
 have h':k<arr.size:=by simpa using aI
 have lS:k<es.length*sz:=by rw[<-H.1];exact h'
 have an:k/sz<es.length:=Nat.div_lt_of_lt_mul (by rw[Nat.mul_comm];exact lS)
 have bb:=Nat.mod_lt k bc
 have e:k/sz*sz+k%sz=k:=by rw[Nat.mul_comm];exact Nat.div_add_mod k sz
 have a6:=(H.2 _ an).1
 have r:=(H.2 _ an).2 (k%sz) (by omega) (by rw[e];exact h')
 have hc:=r.vU (List.all_eq_true.1 (aP _ (List.getElem_mem an)) _ (List.getElem_mem (by omega)))
 simpa[e] using hc
theorem MF (H:dd base okin σ h w) (cg:kC G (b5 base okin σ h) σ w F a) {r:Nat} (bf:σ r=none) {args:Array Operand} {argTypes:Array TypeId} {ty:TypeId} {mJ:kx}
 (I:fT P (.call {callee:= .builtin .append,args,argTypes})=some mJ) {bm:Nat} {v:J} {ay:aF} {c:ey}
 (he:evalOp bm r (bn.cu G F) h mJ=some (v,ay,c)):
 ∃bN cv bh,(Builtin.append_ argTypes ty (args.map a.eval)).run P w= .ok cv bh/\Prog base okin σ h w bN ay bh/\dd base okin bN ay bh/\bC bh (b5 base okin bN ay) bN v cv/\∀id,id≠r->bN id=σ id:=by
 simp only[fT] at I
 split at I<;>try(cases I;done)
 rename_i t u X Y a' fK
 have As:argTypes= #[t,u]:=by rw[<-Array.toList_inj];exact a'
 have v8:args= #[X,Y]:=by rw[<-Array.toList_inj];exact fK
 subst As;subst v8
 split at I<;>try(cases I;done)
 rename_i e e' hu xW
 split at I<;>try(cases I;done)
 rename_i sz bytes z x y aP au aV av bj
 split at I<;>try(cases I;done)
 rename_i D_
 cases I
 simp only[evalOp] at he
 obtain⟨ys,pz,he⟩:=Option.bind_eq_some_iff.1 he
 split at he<;>try(cases he;done)
 rename_i oU
 obtain⟨dO,e2,lT⟩:=oU
 have D':∀q∈ys,q.cells.length=sz:=fun q bo=>by
  have:=List.all_eq_true.1 lT q bo
  simp only[Bool.and_eq_true,beq_iff_eq] at this
  exact this.1
 have MG:∀q∈ys,q.cells.all J.dp=true:=fun q bo=>by
  have:=List.all_eq_true.1 lT q bo
  simp only[Bool.and_eq_true,beq_iff_eq] at this
  exact this.2
 have rx:=cg.ez av
 have ry:=cg.ez bj
 obtain⟨v9,v_⟩:=H.drew
 obtain⟨B,d,At,new,xX,nn⟩:=xU (P:=P) H ry pz D' dO
 obtain⟨Zj,ob,Ea,Eb,Au,xY⟩:=xU (P:=P) v9 (v_.rep ry) pz D' dO
 rw[At] at Ea;cases Ea
 rw[At] at xX Au
 have MH:(#[X,Y]:Array Operand).map a.eval= #[a.eval X,a.eval Y]:=by simp
 rw[MH,At]
 have Ec:∀(A:Option Addr) (n dV:Nat),ys.length=0->n<=dV->
  (Builtin.append_ #[t,u] ty #[.slice A n dV,.slice B ys.length d]).run P w= .ok (.slice A n dV) w:=fun A n dV gR hle=>by
  have od:new.toList= []:=List.eq_nil_of_length_eq_zero (by have:=nn.1;rw[gR,Nat.zero_mul] at this;simpa using this)
  rw[gR] at xX|-
  cases A<;>simp[Builtin.append_,run_underlying hu,run_underlying xW,run_sizeOf aP,Builtin.lenOf,hle,xX,od,storeCells]
 split at he
 ·
  rename_i xs ex xZ
  rw[xZ] at rx
  split at he
  · rename_i gR
    cases he
    have oc:=rx.q0
    generalize gA:a.eval X=hq at oc rx
    cases oc with
    | sl _ _ A dV _ _ hle _ _ _ _ _=>
      refine⟨σ,_,w,Ec A xs.length dV gR hle,⟨fun _ _ x=>x,fun _ _ a4=>⟨a4,rfl⟩,Below.refl _ _,fun _=>Nat.le_refl _⟩,H,rx,fun _ _=>rfl⟩
  split at he<;>try(cases he;done)
  rename_i hr
  obtain⟨cn,eg,gQ,lF⟩:=hr
  cases he
  have MI:=xV lF
  obtain⟨A,dV,hs,mL,hold,Fold⟩:=xU (P:=P) v9 (v_.rep rx) (ys:=xs) rfl MI dO
  have D8:dV=xs.length:=by
   have oc:=rx.q0
   rw[hs] at oc
   cases oc with
   | sl _ _ _ _ _ _ _ h2=>exact h2 cn
  rw[hs] at hold|-
  obtain⟨sg,rest,ab,aa,af⟩:=D7 (P:=P) (w:=w) hu xW aP au aV A xs.length dV B ys.length d (by omega) e2 eg hold Au
  have Av:=Fold.append xY
  have v':=v9.alloc bf (xs++ys) (mL++Eb++rest) e sz (fun i an=>Av.cell rest i an)
  refine⟨_,_,_,by simpa[Builtin.append_] using aa,v_.trans v'.2,v'.1,?_,fun id b8=>by simp[aG,b8]⟩
  refine .ref r 0 _ _ _ sg w.heap.size sz (by simp[aG]) ab ab (fun _=>⟨by simp,?_⟩)
  rw[show w.heap.size=w.drew.heap.size from rfl,z']
  simp only[Array.size_append,Fold.1,xY.1,af,D_]
  rw[<-Nat.add_mul,<-Nat.add_mul]
  exact Nat.le_of_eq (by congr 1;omega)
 ·
  rename_i id off len cap xZ
  split at he
  · rename_i gR
    cases he
    rw[xZ] at rx
    obtain⟨A,dV,b,cR,hs,ba,br,eS,kE⟩:=rx.q1
    rw[hs] at rx|-
    exact ⟨σ,_,w,Ec A len dV gR br,⟨fun _ _ x=>x,fun _ _ a4=>⟨a4,rfl⟩,Below.refl _ _,fun _=>Nat.le_refl _⟩,H,rx,fun _ _=>rfl⟩
  split at he<;>try(cases he;done)
  rename_i x3
  have x3:h.shut id=false:=by simpa using x3
  obtain⟨blk,oY,he⟩:=Option.bind_eq_some_iff.1 he
  split at he<;>try(cases he;done)
  rename_i hr
  obtain⟨cn,eg,gQ,lF⟩:=hr
  rw[xZ] at rx
  have Ed:=xV lF
  obtain⟨A,dV,b,cR,hs,ba,br,eS,kE⟩:=rx.q1
  obtain⟨gF,Zk,arr,MJ,f1,f2,f3⟩:=H.blk id blk oY
  rw[ba] at f1;cases f1
  have Ee:0<blk.length->cR=sz:=fun aS=>by
   have:=(f3 0 aS).1
   have:=Ed _ (List.getElem_mem aS)
   omega
  have MK:gG w b=arr.size:=by unfold gG;rw[f2]
  have stay:len+ys.length<=dV->cR=sz->
   (Builtin.append_ #[t,u] ty #[.slice A len dV,.slice B ys.length d]).run P w= .ok (.slice A (len+ys.length) dV) (w.setRow b (arr.toList.take (off*sz+len*sz)++new.toList++arr.toList.drop (off*sz+len*sz+new.toList.length)).toArray)/\
     off*sz+len*sz+new.toList.length<=arr.toList.length:=by
   intro hle kX
   subst kX
   obtain⟨v8,Aw⟩:=kE (by omega)
   rw[MK] at Aw
   have x4:new.toList.length=ys.length*cR:=by simp[nn.1]
   have p':off*cR+len*cR+new.toList.length<=arr.toList.length:=by
    rw[x4]
    have:(off+(len+ys.length))*cR<=(off+dV)*cR:=Nat.mul_le_mul_right _ (by omega)
    rw[Nat.add_mul,Nat.add_mul] at this
    simp;omega
   refine⟨?_,p'⟩
   have fL:=run_storeCells_at (P:=P) b (off*cR+len*cR) MJ new.toList 0 arr w f2 (by simp only[Nat.add_zero];simpa using p') (nn.vU dO MG)
   simp only[Nat.add_zero] at fL
   have ML:(⟨b,off*cR,none⟩:Addr).add (len*cR)=⟨b,off*cR+len*cR,none⟩:=p_ _ _ _
   subst v8
   simp[Builtin.append_,run_underlying hu,run_underlying xW,run_sizeOf aP,Builtin.lenOf,hle,xX,ML,fL]
  have Ax:∀(kX:cR=sz),off*sz+len*sz+new.toList.length<=arr.toList.length->∀i (an:i<blk.length) j (bb:j<sz),¬(off+len<=i/\i<off+len+ys.length)->
   ∃v,(arr.toList.take (off*sz+len*sz)++new.toList++arr.toList.drop (off*sz+len*sz+new.toList.length)).toArray[i*sz+j]? =some v/\bC w (b5 base okin σ h) σ (blk[i].cells[j]'(by rw[(f3 i an).1,kX];exact bb)) v:=by
   intro kX p' i an j bb x5
   subst kX
   obtain⟨v0,aj,aq⟩:=(f3 i an).2 j (by rw[(f3 i an).1];exact bb)
   refine⟨v0,?_,aq⟩
   have b6:=(Array.getElem?_eq_some_iff.1 aj).1
   have mq:=(Array.getElem?_eq_some_iff.1 aj).2
   have x4:new.toList.length=ys.length*cR:=by simp[nn.1]
   rw[List.getElem?_toArray,List.getElem?_eq_getElem (by simp at p'|-;omega),q2 p' _ _ (by simpa using b6),dif_neg]
   · simpa using mq
   · rw[x4]
     rintro ⟨b7,c3⟩
     apply x5
     have aW:off*cR+len*cR=(off+len)*cR:=by rw[Nat.add_mul]
     have bW:off*cR+len*cR+ys.length*cR=(off+len+ys.length)*cR:=by rw[Nat.add_mul,Nat.add_mul]
     rw[aW] at b7
     rw[bW] at c3
     constructor
     · refine Nat.le_of_not_lt fun MM=>?_
       have:=py MM bb;omega
     · refine Nat.lt_of_not_le fun MN=>?_
       have:(off+len+ys.length)*cR<=i*cR:=Nat.mul_le_mul_right _ MN
       omega
  have Ay:off*sz+len*sz+new.toList.length<=arr.toList.length->∀i (an:i<ys.length) j (bb:j<sz),
   ∃v,(arr.toList.take (off*sz+len*sz)++new.toList++arr.toList.drop (off*sz+len*sz+new.toList.length)).toArray[(off+len+i)*sz+j]? =some v/\bC w (b5 base okin σ h) σ (ys[i].cells[j]'(by rw[(nn.2 i an).1];exact bb)) v:=by
   intro p' i an j bb
   have x4:new.toList.length=ys.length*sz:=by simp[nn.1]
   have b6:=py an bb
   have aW:(off+len+i)*sz+j=off*sz+len*sz+(i*sz+j):=by rw[Nat.add_mul,Nat.add_mul];omega
   have fj:(off+len+i)*sz+j<arr.toList.length:=by omega
   rw[List.getElem?_toArray,List.getElem?_eq_getElem (by simp at p' fj|-;omega)]
   refine⟨_,rfl,?_⟩
   rw[q2 p' _ _ fj,dif_pos (by omega)]
   have ea:(off+len+i)*sz+j -(off*sz+len*sz)=i*sz+j:=by omega
   have aI:i*sz+j<new.size:=by rw[nn.1];exact b6
   have:=(nn.2 i an).2 j (by rw[(nn.2 i an).1];exact bb) aI
   simpa[ea] using this
  have Ef:∀(o:Nat),o+new.toList.length<=arr.toList.length->arr.size<=(arr.toList.take o++new.toList++arr.toList.drop (o+new.toList.length)).toArray.size:=by
   intro o a4
   simp at a4|-;omega
  split at he
  ·
   rename_i Aw
   split at he<;>try(cases he;done)
   rename_i D9
   cases he
   have kX:=Ee (by omega)
   obtain⟨s1,s2⟩:=stay (by omega) kX
   rw[hs]
   have W:=H.write (blk':=blk.take (off+len)++ys++blk.drop (off+len+ys.length)) (arr':=(arr.toList.take (off*sz+len*sz)++new.toList++arr.toList.drop (off*sz+len*sz+new.toList.length)).toArray) oY x3 ba f2 (Ef _ s2) (fun i an=>by
    have gp:off+len+ys.length<=blk.length:=by omega
    have cC:i<blk.length:=by simp at an;omega
    have cc:=q2 (cs:=blk) (vs:=ys) (off:=off+len) gp i an cC
    rw[cc]
    by_cases de:off+len<=i/\i<off+len+ys.length
    · simp only[dif_pos de]
      refine⟨by rw[kX];exact (nn.2 _ (by omega)).1,fun j bb=>?_⟩
      have kW:j<sz:=by have:=(nn.2 (i -(off+len)) (by omega)).1;omega
      obtain⟨v,hP,kD⟩:=Ay s2 (i -(off+len)) (by omega) j kW
      have:off+len+(i -(off+len))=i:=by omega
      rw[this] at hP
      exact ⟨v,by rw[kX];exact hP,kD⟩
    · simp only[dif_neg de]
      refine⟨(f3 i cC).1,fun j bb=>?_⟩
      obtain⟨v,hP,kD⟩:=Ax kX s2 i cC j (by rw[<-kX,<-(f3 i cC).1];exact bb) de
      exact ⟨v,by rw[kX];exact hP,kD⟩)
   refine⟨σ,_,_,s1,W.2,W.1,?_,fun _ _=>rfl⟩
   exact .ref id off _ cap A dV b cR ba (by omega) eS (fun ia=>⟨(kE ia).1,Nat.le_trans (kE ia).2 (W.2.grow b)⟩)
  · rename_i Aw
    split at he<;>try(cases he;done)
    rename_i Az
    cases he
    obtain⟨Az,Zl⟩:=Az
    subst Az
    have kX:=Ee (by omega)
    rw[hs]
    by_cases fj:len+ys.length<=dV
    ·
     obtain⟨s1,s2⟩:=stay fj kX
     simp only[Nat.zero_mul,Nat.zero_add] at s1 s2 Ax Ay
     have R:=H.rename (r:=r) (blk':=blk.take len++ys) (arr':=(arr.toList.take (len*sz)++new.toList++arr.toList.drop (len*sz+new.toList.length)).toArray) oY x3 bf ba f2 (Ef _ s2) (fun i an=>by
      by_cases de:i<len
      · have cc:(blk.take len++ys)[i]=blk[i]'(by omega):=by
         rw[List.getElem_append_left (by simp;omega)];simp
        rw[cc]
        refine⟨(f3 i (by omega)).1,fun j bb=>?_⟩
        obtain⟨v,hP,kD⟩:=Ax kX s2 i (by omega) j (by rw[<-kX,<-(f3 i (by omega)).1];exact bb) (by omega)
        exact ⟨v,by rw[kX];exact hP,kD⟩
      · have fM:min len blk.length=len:=by omega
        have cC:i - len<ys.length:=by simp[fM] at an;omega
        have cc:(blk.take len++ys)[i]=ys[i - len]:=by
         rw[List.getElem_append_right (by simp;omega)];simp[fM]
        rw[cc]
        refine⟨by rw[kX];exact (nn.2 _ cC).1,fun j bb=>?_⟩
        obtain⟨v,hP,kD⟩:=Ay s2 (i - len) cC j (by rw[<-(nn.2 _ cC).1];exact bb)
        have:len+(i - len)=i:=by omega
        rw[this] at hP
        exact ⟨v,by rw[kX];exact hP,kD⟩)
     refine⟨_,_,_,s1,R.2,R.1,?_,fun gn b8=>by simp[aG,b8]⟩
     refine .ref r 0 _ _ A dV b cR (by simp[aG]) fj fj (fun ia=>⟨(kE ia).1,Nat.le_trans (kE ia).2 (R.2.grow b)⟩)
    ·
     obtain⟨MO,Eg⟩:=v9.kill id
     have oZ:elems h (.ref id 0 len cap)=some (blk.take len):=by
      simp only[elems,oY];rw[if_pos cn];simp
     have MP:bC w (b5 base okin σ h) σ (.ref id 0 len cap) (a.eval X):=rx
     have sh:(blk.take len).length=len:=by simp;omega
     obtain⟨Zm,c',Eh,mL,hold,Fold⟩:=xU (P:=P) v9 (v_.rep MP) oZ (fun q bo=>Ed q (List.mem_of_mem_take bo)) dO
     rw[hs,sh] at Eh;cases Eh
     rw[hs,sh] at hold
     obtain⟨sg,rest,ab,aa,af⟩:=D7 (P:=P) (w:=w) hu xW aP au aV A len dV B ys.length d (by omega) e2 eg hold Au
     have Av:=Fold.append xY
     have v':=MO.alloc bf (blk.take len++ys) (mL++Eb++rest) e sz (fun i an=>by
      obtain⟨b7,c3⟩:=Av.cell rest i an
      refine⟨b7,fun j bb=>?_⟩
      obtain⟨v,y1,ec⟩:=c3 j bb
      exact ⟨v,y1,Eg.rep ec⟩)
     refine⟨_,_,_,by simpa[Builtin.append_] using aa,(v_.trans Eg).trans v'.2,v'.1,?_,fun gn b8=>by simp[aG,b8]⟩
     refine .ref r 0 _ _ _ sg w.heap.size sz (by simp[aG]) ab ab (fun _=>⟨by simp,?_⟩)
     rw[show w.heap.size=w.drew.heap.size from rfl,z']
     simp only[Array.size_append,Fold.1,xY.1,af,D_,sh]
     rw[<-Nat.add_mul,<-Nat.add_mul]
     exact Nat.le_of_eq (by congr 1;omega)
 · cases he
end
end Go.Eng
namespace Go.Eng
open Go Go.RowKit
section
variable {P:Program} {w:World} {σ:Nat->Option (Nat × Nat)}
theorem Ei {e:TypeId} {k:IntKind} (hu:P.underlying e=some (.int k)) (cs:Array Value) (i:Nat) (v:Value) (h:cs[i]? =some v):(part e cs i).run P w= .ok v w:=by
 have d':nj P e=some false:=by simp[nj,hu]
 simp[part,vW d',h]
theorem Ej:∀ {xs ys:List J} {b:Bool},gf xs ys=some b->xs.length=ys.length/\
 ∀i (h:i<xs.length) (ay:i<ys.length),∃k x y,xs[i]= .int k x/\ys[i]= .int k y
 | [],[],b,_=>⟨rfl,fun i h=>absurd h (by simp)⟩
 | .int k x::xs,.int k' y::ys,b,h=>by
   simp only[gf] at h
   split at h
   · rename_i aI
     subst aI
     obtain⟨r,ae,_⟩:=Option.map_eq_some_iff.1 h
     obtain⟨l,q⟩:=Ej ae
     refine⟨by simp[l],fun i an cC=>?_⟩
     cases i with
     | zero=>exact ⟨k,x,y,rfl,rfl⟩
     | succ i=>exact q i (by simpa using an) (by simpa using cC)
   · cases h
theorem Ek {e:TypeId} {U:IntKind} (hu:P.underlying e=some (.int U)) (d:Nat) (xs ys:Array Value):∀(l:List Nat),
 (∀i∈l,∃k x y,xs[i]? =some (.int k x)/\ys[i]? =some (.int k y))->
 (forIn l ((none,()):Option Bool × Unit) (fun i Zn=>do
         let AA <-part e xs (i*1)
         let MQ <-part e ys (i*1)
         let AA <-Op.equalIn (d+1) e AA MQ
         if (!AA)=true then pure (ForInStep.done (some false,())) else pure (ForInStep.yield (none,()))):Sem (Option Bool × Unit)).run P w
   = .ok (if l.all (fun i=>match xs[i]?,ys[i]? with
       | some (.int _ x),some (.int _ y)=>x == y
       | _,_=>false) then (none,()) else (some false,())) w
 | [],_=>by simp
 | i::l,h=>by
   obtain⟨k,x,y,aj,aq⟩:=h i (by simp)
   have b_:=Ek hu d xs ys l (fun j bb=>h j (by simp[bb]))
   rw[List.forIn_cons]
   have heq:(Op.equalIn (d+1) e (.int k x) (.int k y)).run P w= .ok (x == y) w:=by
    unfold Op.equalIn
    simp[run_underlying hu]
   simp only[Sem.run_bind,Nat.mul_one,Ei hu xs i _ aj,Ei hu ys i _ aq,Result.andThen_ok,heq,List.all_cons,aj,aq]
   by_cases np:x=y
   · subst np
     simp only[Nat.mul_one] at b_
     simp only[beq_self_eq_true,Bool.not_true,Bool.false_eq_true,if_false,Sem.run_pure,Result.andThen_ok,Bool.true_and]
     exact b_
   · have:(x == y)=false:=by simpa using np
     simp[this]
theorem El:∀ {xs ys:List J} {b:Bool} (wa wb:Nat->Option Value),gf xs ys=some b->
 (∀i (h:i<xs.length) k x,xs[i]= .int k x->wa i=some (.int k x))->(∀i (h:i<ys.length) k y,ys[i]= .int k y->wb i=some (.int k y))->
 ((List.range' 0 xs.length).all fun i=>match wa i,wb i with
       | some (.int _ x),some (.int _ y)=>x == y
       | _,_=>false)=b
 | [],[],b,wa,wb,h,_,_=>by simp only[gf] at h;cases h;rfl
 | .int k x::xs,.int k' y::ys,b,wa,wb,h,av,bj=>by
   simp only[gf] at h
   split at h
   · rename_i aI
     subst aI
     obtain⟨r,ae,h2⟩:=Option.map_eq_some_iff.1 h
     have b_:=El (fun i=>wa (i+1)) (fun i=>wb (i+1)) ae (fun i an k x de=>av (i+1) (by simpa using an) k x (by simpa using de)) (fun i an k y de=>bj (i+1) (by simpa using an) k y (by simpa using de))
     have a0:=av 0 (by simp) k x rfl
     have b0:=bj 0 (by simp) k y rfl
     rw[<-h2,<-b_]
     simp only[List.length_cons,List.range'_succ,List.all_cons,a0,b0,Nat.zero_add]
     congr 1
     rw[<-List.map_add_range' (a:=1) (s:=0),List.all_map]
     congr 1
     funext i
     simp[Nat.add_comm]
   · cases h
theorem MR {ok:Nat->Prop} {t e:TypeId} {n:Nat} {U:IntKind} (a':P.underlying t=some (.array n e)) (aP:ha P e=some 1) (hu:P.underlying e=some (.int U)) {xs ys:List J} {hq hO:Value}
 (av:bC w ok σ (.agg xs) hq) (bj:bC w ok σ (.agg ys) hO) {b:Bool} (au:gf xs ys=some b) (aC:xs.length=n):
 (Op.equal t hq hO).run P w= .ok b w/\∃lG mM,hq= .agg lG/\hO= .agg mM:=by
 obtain⟨lG,rfl,ck,ct⟩:=av.tG
 obtain⟨mM,rfl,dD,ej⟩:=bj.tG
 refine⟨?_,lG,mM,rfl,rfl⟩
 obtain⟨a6,aI⟩:=Ej au
 show (Op.equalIn (9999+1) t (.agg lG) (.agg mM)).run P w=_
 unfold Op.equalIn
 simp only[Sem.run_bind,run_underlying a',Result.andThen_ok,run_sizeOf aP]
 rw[Std.Legacy.Range.forIn_eq_forIn_range']
 simp only[Std.Legacy.Range.size,Nat.sub_zero,Nat.add_sub_cancel,Nat.div_one]
 have L:=Ek (w:=w) hu 9998 lG mM (List.range' 0 n) (fun i an=>by
  have cC:i<n:=by simpa using an
  obtain⟨k,x,y,aj,aq⟩:=aI i (by omega) (by omega)
  have a1:=ct i (by omega) (by omega)
  have cP:=ej i (by omega) (by omega)
  rw[aj] at a1;rw[aq] at cP
  exact ⟨k,x,y,by rw[Array.getElem?_eq_getElem (by omega),a1.hN],by rw[Array.getElem?_eq_getElem (by omega),cP.hN]⟩)
 have A:=El (fun i=>lG[i]?) (fun i=>mM[i]?) au
  (fun i an k x de=>by
    have a1:=ct i an (by omega)
    rw[de] at a1
    rw[Array.getElem?_eq_getElem (by omega),a1.hN])
  (fun i an k y de=>by
    have a1:=ej i an (by omega)
    rw[de] at a1
    rw[Array.getElem?_eq_getElem (by omega),a1.hN])
 rw[aC] at A
 simp only[A] at L
 simp only[L,Result.andThen_ok]
 cases b<;>simp
end
end Go.Eng
namespace Go.Eng
open Go Go.RowKit
section
variable {P:Program} {base:Nat} {okin:Nat->Prop} {σ:Nat->Option (Nat × Nat)} {h:aF} {w:World} {G:Nat->Option J} {F:Nat->J} {a:Act}
theorem Em (ok:Nat->Prop):∀(xs:List J) (k:IntKind) (x:Int) (cs:List Value) (v:J),fg (fun a b=>if b<a then b else a) (.int k x::xs)=some v->
 xs.length=cs.length->(∀i (h:i<xs.length) (ay:i<cs.length),bC w ok σ xs[i] cs[i])->
 ∃cv,(cs.foldlM Builtin.min2 (.int k x):Sem Value).run P w= .ok cv w/\bC w ok σ v cv
 | [],k,x,cs,v,h,a6,_=>by
   have:cs= []:=List.eq_nil_of_length_eq_zero (by simpa using a6.symm)
   subst this
   simp only[fg] at h;cases h
   exact ⟨.int k x,by simp,.val _ _ (.int _ _)⟩
 | y::xs,k,x,[],v,h,a6,_=>by simp at a6
 | y::xs,k,x,c::cs,v,h,a6,bf=>by
   have lU:=bf 0 (by simp) (by simp)
   simp only[List.getElem_cons_zero] at lU
   cases y<;>simp only[fg] at h<;>try(cases h;done)
   rename_i k' y
   split at h<;>try(cases h;done)
   rename_i aI
   subst aI
   rw[lU.hN]
   obtain⟨cv,aj,aq⟩:=Em ok xs k (if y<x then y else x) cs v h (by simpa using a6) (fun i an cC=>by
    have:=bf (i+1) (by simp;omega) (by simp;omega)
    simpa using this)
   exact ⟨cv,by simpa[List.foldlM_cons,Builtin.min2] using aj,aq⟩
theorem En (ok:Nat->Prop):∀(xs:List J) (k:IntKind) (x:Int) (cs:List Value) (v:J),fg (fun a b=>if a<b then b else a) (.int k x::xs)=some v->
 xs.length=cs.length->(∀i (h:i<xs.length) (ay:i<cs.length),bC w ok σ xs[i] cs[i])->
 ∃cv,(cs.foldlM Builtin.max2 (.int k x):Sem Value).run P w= .ok cv w/\bC w ok σ v cv
 | [],k,x,cs,v,h,a6,_=>by
   have:cs= []:=List.eq_nil_of_length_eq_zero (by simpa using a6.symm)
   subst this
   simp only[fg] at h;cases h
   exact ⟨.int k x,by simp,.val _ _ (.int _ _)⟩
 | y::xs,k,x,[],v,h,a6,_=>by simp at a6
 | y::xs,k,x,c::cs,v,h,a6,bf=>by
   have lU:=bf 0 (by simp) (by simp)
   simp only[List.getElem_cons_zero] at lU
   cases y<;>simp only[fg] at h<;>try(cases h;done)
   rename_i k' y
   split at h<;>try(cases h;done)
   rename_i aI
   subst aI
   rw[lU.hN]
   obtain⟨cv,aj,aq⟩:=En ok xs k (if x<y then y else x) cs v h (by simpa using a6) (fun i an cC=>by
    have:=bf (i+1) (by simp;omega) (by simp;omega)
    simpa using this)
   exact ⟨cv,by simpa[List.foldlM_cons,Builtin.max2] using aj,aq⟩
theorem Eo {f:Field} {sz:Nat} (aP:ha P f.type=some sz) (aS:sz≠0) (c6:Addr):(fieldPlace c6 f).run P w= .ok (c6.add f.offset) w:=by
 simp[fieldPlace,run_sizeOf aP,aS]
theorem Ep {ok:Nat->Prop} {v:J} {c6:Addr} {eK:Nat->Value} (ba:∀j,j<v.cells.length->ok c6.block/\w.cell? (c6.add j)=some (eK j)) (br:∀j (h:j<v.cells.length),dU w ok (v.cells[j]) (eK j))
 {off sz:Nat} {cq:Bool} {cs:List J} {u:J} (I:cut v.cells off sz=some cs) (bc:partOf cq cs=some u):bC w ok σ (.e0 u) (.pointer (some (c6.add off))):=by
 obtain⟨cV,cY,dF⟩:=tH I
 have MS:∀j,j<cs.length->ok (c6.add off).block/\w.cell? ((c6.add off).add j)=some (eK (off+j)):=by
  intro j bb
  obtain⟨eD,ef⟩:=ba (off+j) (by omega)
  refine⟨by rw[Addr.qY];exact eD,?_⟩
  have MT:c6.spot=none\/0<off+j:=by
   by_cases aS:0<off+j
   · exact .inr aS
   · have qd:off+j=0:=by omega
     rw[qd] at ef
     refine .inl ?_
     cases aP:c6.spot with
     | none=>rfl
     | some s=>
       have e:c6.add 0=c6:=by unfold Addr.add;simp
       rw[e] at ef
       unfold World.cell? at ef
       simp only[aP,Option.isSome_some,if_true] at ef
       split at ef<;>cases ef
  rw[add_add _ _ _ MT];exact ef
 have hu:u.cells=cs:=by
  rcases Ac bc with⟨rfl,rfl⟩|⟨rfl,rfl,aP⟩
  · rfl
  · cases u<;>first|rfl|simp[J.dp] at aP
 refine .e0 u _ (fun j=>eK (off+j)) (fun j bb=>MS j (by rw[<-hu];exact bb)) (fun j bb=>?_)
 have kW:j<cs.length:=by rw[<-hu];exact bb
 have e:u.cells[j]=v.cells[off+j]'(by omega):=by
  have:=dF j kW (by omega)
  simp only[hu];exact this
 rw[e];exact br _ _
theorem x6 {x:Sem Next} {s:Sem Value} (av:x=(do pure (.value (<-s)))) {cv:Value} {bh:World} (e:s.run P w= .ok cv bh):x.run P w= .ok (.value cv) bh:=by
 rw[av];simp[e]
theorem dd.sized (H:dd base okin σ h w) {id b sz s:Nat} (aP:σ id=some (b,sz)) (au:sizedB s (h.cells id)=true):sz=s:=by
 cases I:h.cells id with
 | none=>rw[I] at au;cases au
 | some blk=>
   rw[I] at au
   simp only[sizedB,Bool.and_eq_true,decide_eq_true_eq] at au
   obtain⟨gF,fU,arr,ty,aj,_,aW⟩:=H.blk id blk I
   rw[aP] at aj;cases aj
   have ae:=(aW 0 au.1).1
   have h2:=xV au.2 _ (List.getElem_mem au.1)
   omega
theorem MU {v:Value} (h:qX v=some (.sl [] true)):v= .slice none 0 0:=by
 unfold qX at h
 split at h
 · obtain⟨as,_,e⟩:=Option.map_eq_some_iff.1 h;cases e
 · unfold qW at h
   split at h<;>first|rfl|cases h
theorem MV {op:BinOp} {t e:TypeId} {x y:Operand} {A:Option Addr} {l c:Nat} (hu:P.underlying t=some (.slice e)) (aU:A.isSome=true) (neg:Bool) (a4:op=if neg then .neq else .eql):
 (do eqGuard op t x y (.slice A l c) (.slice none 0 0);binOp op t (.slice A l c) (.slice none 0 0):Sem Value).run P w= .ok (.bool neg) w:=by
 obtain⟨c6,rfl⟩:=Option.isSome_iff_exists.1 aU
 have aj:(Op.equal t (.slice (some c6) l c) (.slice none 0 0)).run P w= .ok false w:=by
  unfold Op.equal Op.maxDepth Op.equalIn
  simp[run_underlying hu]
 cases neg
 · simp only[Bool.false_eq_true,if_false] at a4
   subst a4
   have aq:(binOp .eql t (.slice (some c6) l c) (.slice none 0 0)).run P w= .ok (.bool false) w:=by
    show (do pure (.bool (<-Op.equal t (.slice (some c6) l c) (.slice none 0 0))):Sem Value).run P w=_
    simp[aj]
   simp[eqGuard,aq]
 · simp only[if_true] at a4
   subst a4
   have aq:(binOp .neq t (.slice (some c6) l c) (.slice none 0 0)).run P w= .ok (.bool true) w:=by
    show (do pure (.bool !(<-Op.equal t (.slice (some c6) l c) (.slice none 0 0))):Sem Value).run P w=_
    simp[aj]
   simp[eqGuard,aq]
theorem Er (H:dd base okin σ h w) (cg:kC G (b5 base okin σ h) σ w F a) {bm r:Nat} {o:Oper} {op:BinOp} {t e Es:TypeId} {x y:Operand} {la:bn} (df:o.op= .binOp op t x y Es) (hu:P.underlying t=some (.slice e)) (ae:eF x=some la) (h2:eF y=some (.c (.sl [] true)))
 (neg:Bool) (a4:op=if neg then .neq else .eql) {v:J} {ay:aF} {c:ey} (he:evalOp bm r (bn.cu G F) h (.isnil neg la)=some (v,ay,c)):tI base okin σ h w r v ay ((execOp a.eval o).run P w):=by
 have bj:a.eval y= .slice none 0 0:=by
  cases y with
  | const k=>
    obtain⟨z,aV,e⟩:=Option.map_eq_some_iff.1 h2
    cases e
    exact MU aV
  | _=>cases h2
 have rx:=cg.ez ae
 have fin:∀A l dV,a.eval x= .slice A l dV->A.isSome=true->tI base okin σ h w r (.bool neg) h ((execOp a.eval o).run P w):=by
  intro A l dV ex aU
  have aq:=MV (P:=P) (w:=w) (x:=x) (y:=y) (l:=l) (c:=dV) hu aU neg a4
  rw[<-ex,<-bj] at aq
  exact .pure H (cv:= .bool neg) (x6 (by simp only[execOp,df]) aq) (.val _ _ (.bool _))
 simp only[evalOp] at he
 split at he<;>try(cases he;done)
 · rename_i xs ex aY
   split at he<;>try(cases he;done)
   rename_i pA
   cases he
   rw[aY] at rx
   have bf:=rx.q0
   generalize gA:a.eval x=hq at bf
   cases bf with
   | sl _ _ A c _ _ _ _ _ _ cf _=>exact fin _ _ _ gA (cf pA)
 · rename_i id off len cap aY
   split at he<;>try(cases he;done)
   rename_i pA
   cases he
   rw[aY] at rx
   obtain⟨A,c,b,sz,hs,_,ck,Zo,dD⟩:=rx.q1
   obtain⟨rfl,_⟩:=dD (by omega)
   exact fin _ _ _ hs rfl
theorem Et:∀(m:List (Int × FuncId)) (n:Int) (es:List MapEntry) (i:Nat),es.length=m.length->(∀j (h:j<m.length) (ay:j<es.length),es[j].key= .int .i64 m[j].1/\es[j].val= .func (.func m[j].2) #[] #[])->
 ∃r,Instr.findNow (.int .i64) (.int .i64 n) es i=some r/\r.map (·.2)=(m.lookup n).map fun f=>Value.func (.func f) #[] #[]
 | [],n,[],i,_,_=>⟨none,rfl,rfl⟩
 | (k,f)::m,n,e::es,i,a6,av=>by
   obtain⟨aj,aq⟩:=av 0 (by simp) (by simp)
   simp only[List.getElem_cons_zero] at aj aq
   unfold Instr.findNow
   rw[aj]
   by_cases aI:n=k
   · subst aI
     refine⟨some (i,e.val),by simp[Instr.sameNow],by simp[aq]⟩
   · obtain⟨r,ae,h2⟩:=Et m n es (i+1) (by simpa using a6) (fun j h ay=>by have:=av (j+1) (by simp;omega) (by simp;omega);simp only[List.getElem_cons_succ] at this;exact this)
     have au:(n == k)=false:=by simpa using aI
     refine⟨r,by simp[Instr.sameNow,au,ae],?_⟩
     rw[h2,List.lookup_cons]
     simp[au]
 | [],_,_::_,_,a6,_=>by simp at a6
 | _::_,_,[],_,a6,_=>by simp at a6
theorem MW (H:dd base okin σ h w) (cg:kC G (b5 base okin σ h) σ w F a) {bm r:Nat} (bf:σ r=none) (o:Oper) {mJ:kx} (I:fT P o.op=some mJ)
 {v:J} {ay:aF} {c:ey} (he:evalOp bm r (bn.cu G F) h mJ=some (v,ay,c)):
 tI base okin σ h w r v ay ((execOp a.eval o).run P w):=by
 cases df:o.op<;>rw[df] at I<;>try(simp only[fT] at I;cases I;done)
 case panic x=>
  simp only[fT] at I;cases I
  simp only[evalOp,bn.cu] at he;cases he
 case move x=>
  obtain⟨y,bj,rfl⟩:=Option.map_eq_some_iff.1 I
  simp only[evalOp] at he;cases he
  exact .pure H (by simp[execOp,df]) (cg.ez bj)
 case assign x=>
  obtain⟨y,bj,rfl⟩:=Option.map_eq_some_iff.1 I
  simp only[evalOp] at he;cases he
  exact .pure H (by simp[execOp,df]) (cg.ez bj)
 case pick dV x y=>
  simp only[fT] at I
  split at I<;>try(cases I;done)
  rename_i c' la pv ae h2 aO
  cases I
  simp only[evalOp] at he
  split at he<;>try(cases he;done)
  rename_i t a'
  cases he
  have au:=cg.ez ae
  rw[a'] at au
  refine .pure H (cv:=if t then a.eval x else a.eval y) (by simp[execOp,df,au.qZ,asBool]) ?_
  cases t
  · exact cg.ez aO
  · exact cg.ez h2
 case alloc e=>
  obtain⟨z,aV,rfl⟩:=Option.map_eq_some_iff.1 I
  simp only[evalOp] at he;cases he
  obtain⟨a7,b7,c3,sc,MX,_⟩:=tO (P:=P) (w:=w) (σ:=σ) (ok:=b5 base okin σ h) aV
  obtain⟨bN,bh,aj,aq,aW,bW,ea⟩:=D1 (P:=P) H bf (t:=e) (bC.val _ _ MX) sc
  exact ⟨bN,_,bh,.inl (by simp[execOp,df,Instr.alloc,b7,aj]),aq,aW,bW,ea⟩
 case box e x=>
  obtain⟨y,bj,rfl⟩:=Option.map_eq_some_iff.1 I
  simp only[evalOp] at he
  split at he<;>try(cases he;done)
  rename_i aP
  cases he
  obtain⟨bN,bh,aj,aq,aW,bW,ea⟩:=D1 (P:=P) H bf (t:=e) (cg.ez bj) aP
  exact ⟨bN,_,bh,.inl (by simp[execOp,df,Instr.box,aj]),aq,aW,bW,ea⟩
 case build t ps=>
  obtain⟨rfl,cv,aj,aq⟩:=Mo cg I he
  exact .pure H (by simp[execOp,df] at aj|-;simp[aj]) aq
 case buildSlice t n ps=>
  obtain⟨rfl,cv,bh,aj,aq,aW,bW⟩:=Mu H cg I he
  exact ⟨σ,cv,bh,.inl (by simp[execOp,df] at aj|-;simp[aj]),aq,aW,bW,fun _ _=>rfl⟩
 case load t x=>
  simp only[fT] at I
  split at I<;>try(cases I;done)
  rename_i cq s y ae h2 aO
  split at I<;>try(cases I;done)
  rename_i a2
  cases I
  obtain⟨rfl,cv,aj,aq⟩:=Me (P:=P) H ae h2 a2 (cg.ez aO) he
  exact .pure H (by simp[execOp,df,aj]) aq
 case store t x y=>
  simp only[fT] at I
  split at I<;>try(cases I;done)
  rename_i s la pv ae h2 aO
  cases I
  obtain⟨rfl,bh,aj,aq,aW⟩:=Mf (P:=P) H ae (cg.ez h2) (cg.ez aO) he
  exact ⟨σ,undef,bh,.inr ⟨by simp[execOp,df,aj],rfl⟩,aq,aW,.undef _,fun _ _=>rfl⟩
 case binOp op t x y Es=>
  simp only[fT] at I
  split at I<;>try(cases I;done)
  rename_i la pv ae h2
  split at I<;>try(cases I;done)
  · cases I
    simp only[evalOp] at he
    obtain⟨u,aY,he⟩:=Option.map_eq_some_iff.1 he
    cases he
    obtain⟨cv,aj,aq⟩:=Aj (P:=P) 0 op t x y (cg.ez ae) (cg.ez h2) aY (fun e=>absurd e (by decide))
    exact .pure H (x6 (by simp only[execOp,df]) aj) aq
  · rename_i hu
    cases I
    simp only[evalOp] at he
    obtain⟨u,aY,he⟩:=Option.map_eq_some_iff.1 he
    cases he
    obtain⟨cv,aj,aq⟩:=Aj (P:=P) 1 op t x y (cg.ez ae) (cg.ez h2) aY (fun _=>hu)
    exact .pure H (x6 (by simp only[execOp,df]) aj) aq
  · cases I
    simp only[evalOp] at he
    obtain⟨u,aY,he⟩:=Option.map_eq_some_iff.1 he
    cases he
    obtain⟨cv,aj,aq⟩:=Aj (P:=P) 2 op t x y (cg.ez ae) (cg.ez h2) aY (fun e=>absurd e (by decide))
    exact .pure H (x6 (by simp only[execOp,df]) aj) aq
  · rename_i n e hu
    split at I<;>try(cases I;done)
    rename_i k Eu mI
    have MY:∃d,P.depth=d+1+1:=⟨2*(P.types.size+Made.depth),rfl⟩
    have MZ:P.eqGuardType P.depth t=false:=by
     obtain⟨d,bw⟩:=MY
     rw[bw]
     simp[Program.eqGuardType,hu,Eu]
    have main:∀neg,kx.eqA neg n la pv=mJ->(op=if neg then .neq else .eql)->tI base okin σ h w r v ay ((execOp a.eval o).run P w):=by
     rintro neg rfl x7
     simp only[evalOp] at he
     split at he<;>try(cases he;done)
     rename_i xs ys av bj
     split at he<;>try(cases he;done)
     rename_i aC
     obtain⟨b,au,he⟩:=Option.map_eq_some_iff.1 he
     cases he
     have rx:=cg.ez ae
     have ry:=cg.ez h2
     rw[av] at rx;rw[bj] at ry
     obtain⟨aj,lG,mM,ex,gB⟩:=MR (P:=P) hu mI Eu rx ry au aC
     rw[ex,gB] at aj
     have bq:=run_eqGuard_agg w op t x y lG mM MZ
     refine .pure H (cv:= .bool (b != neg)) ?_ (.val _ _ (.bool _))
     cases neg
     · simp only[Bool.false_eq_true,if_false] at x7
       subst x7
       have aq:(binOp .eql t (.agg lG) (.agg mM)).run P w= .ok (.bool b) w:=by
        show (do pure (.bool (<-Op.equal t (.agg lG) (.agg mM))):Sem Value).run P w=_
        simp[aj]
       simp[execOp,df,ex,gB,bq,aq]
     · simp only[if_true] at x7
       subst x7
       have aq:(binOp .neq t (.agg lG) (.agg mM)).run P w= .ok (.bool !b) w:=by
        show (do pure (.bool !(<-Op.equal t (.agg lG) (.agg mM))):Sem Value).run P w=_
        simp[aj]
       simp[execOp,df,ex,gB,bq,aq]
    split at I
    · rename_i a4
      cases I
      exact main false rfl (by simpa using a4)
    · split at I<;>try(cases I;done)
      rename_i a4
      cases I
      exact main true rfl (by simpa using a4)
  · rename_i e hu
    split at I<;>try(cases I;done)
    split at I
    · rename_i a4
      cases I
      exact Er H cg df hu ae h2 false (by simpa using a4) he
    · split at I<;>try(cases I;done)
      rename_i a4
      cases I
      exact Er H cg df hu ae h2 true (by simpa using a4) he
 case lookup t x i ok=>
  cases ok with
  | false=>simp only[fT] at I;cases I
  | true=>
    simp only[fT] at I
    split at I<;>try(cases I;done)
    rename_i k e hu
    split at I<;>try(cases I;done)
    rename_i la g0 aI aV ae h2
    cases I
    simp only[evalOp] at he
    split at he<;>try(cases he;done)
    rename_i m n av an
    cases he
    have rx:=cg.ez ae
    have pB:=cg.ez h2
    rw[av] at rx;rw[an] at pB
    have er:=rx.DI
    generalize gA:a.eval x=hq at er
    cases er with
    | mp _ Ev es clock eD ef o0 wc=>
      obtain⟨a7,b7,c3,_⟩:=DR (w:=w) aV
      have M0:a7= .nilFunc:=by
       unfold qX at c3
       split at c3
       · obtain⟨as,_,e⟩:=Option.map_eq_some_iff.1 c3;cases e
       · unfold qW at c3
         split at c3<;>first|rfl|cases c3
      subst M0
      obtain⟨q,f1,f2⟩:=Et m n es.toList 0 (by simpa using o0) (fun j h ay=>by simpa using wc j h (by simpa using ay))
      have oe:=MapKept.run_checkKey (w:=w) aI (k:= .int .i64 n) (by simp[MapKept.IsKey]) es.isEmpty 9999
      have Ew:=MapKept.run_findKey (w:=w) aI f1
      have nq:=MapKept.run_getObj_map (P:=P) ef
      cases bo:m.lookup n with
      | none=>
        rw[bo] at f2
        have q5:q=none:=by simpa using f2
        subst q5
        refine .pure H (cv:= .tuple #[.nilFunc,.bool false]) ?_ (.cb _ _ rfl fun i an cC=>?_)
        · simp[execOp,df,Instr.lookup,run_underlying hu,gA,pB.hN,nq,oe,Ew,b7]
        · match i,an with
          | 0,_=>exact .val _ _ .nilfn
          | 1,_=>exact .val _ _ (.bool _)
      | some f=>
        rw[bo] at f2
        obtain⟨⟨Zp,Zq⟩,rfl,f3⟩:=Option.map_eq_some_iff.1 f2
        simp only at f3
        subst f3
        refine .pure H (cv:= .tuple #[.func (.func f) #[] #[],.bool true]) ?_ (.cb _ _ rfl fun i an cC=>?_)
        · simp[execOp,df,Instr.lookup,run_underlying hu,gA,pB.hN,nq,oe,Ew]
        · match i,an with
          | 0,_=>exact .fn f [] [] #[] #[] rfl rfl (fun i h=>absurd h (by simp)) (fun i h=>absurd h (by simp))
          | 1,_=>exact .val _ _ (.bool _)
 case unOp op t x=>
  obtain⟨y,bj,rfl⟩:=Option.map_eq_some_iff.1 I
  simp only[evalOp] at he
  obtain⟨u,aY,he⟩:=Option.map_eq_some_iff.1 he
  cases he
  obtain⟨cv,aj,aq⟩:=Mk (P:=P) op (cg.ez bj) aY
  exact .pure H (by simp[execOp,df,aj]) aq
 case convert s d x=>
  simp only[fT] at I
  split at I<;>try(cases I;done)
  rename_i Zr k y ae h2 aO
  cases I
  simp only[evalOp] at he
  split at he<;>try(cases he;done)
  rename_i k' n av
  cases he
  have rx:=cg.ez aO
  rw[av] at rx
  refine .pure H (cv:= .int k (k.wrap n)) ?_ (.val _ _ (.int _ _))
  simp[execOp,df,rx.hN,convert,run_underlying ae,run_underlying h2,Conv.intToInt]
 case makeFunc f first c0=>
  cases f with
  | func f=>
    simp only[fT] at I
    split at I<;>try(cases I;done)
    rename_i x y ae h2
    cases I
    simp only[evalOp] at he;cases he
    obtain⟨ck,ct⟩:=r_ cg ae
    obtain⟨dD,ej⟩:=r_ cg h2
    refine .pure H (cv:= .func (.func f) (first.map a.eval) (c0.map a.eval)) (by simp[execOp,df,Instr.makeFunc]) ?_
    refine .fn f _ _ _ _ (by simp[ck]) (by simp[dD]) (fun i an cC=>?_) (fun i an cC=>?_)
    · have q:=ct i (by simpa using an) (by simpa using cC)
      rw[Array.getElem_toList] at q
      simpa using q
    · have q:=ej i (by simpa using an) (by simpa using cC)
      rw[Array.getElem_toList] at q
      simpa using q
  | _=>simp only[fT] at I;cases I
 case makeSlice t x y=>
  obtain⟨bN,cv,bh,aj,aq,aW,bW,ea⟩:=Mw H cg bf I he
  exact ⟨bN,cv,bh,.inl (by simp[execOp,df,aj]),aq,aW,bW,ea⟩
 case slice t x bd an ky=>
  simp only[fT] at I
  split at I<;>try(cases I;done)
  rename_i e hu
  split at I<;>try(cases I;done)
  rename_i s y tL cC lb ae h2 aO a2 cf
  split at I<;>try(cases I;done)
  rename_i tM
  have tM:(lb.isSome&&cC.isNone)=false:=by simpa only[Bool.not_eq_true] using tM
  cases I
  have rx:=cg.ez h2
  simp only[evalOp] at he
  split at he
  · rename_i id off len cap av
    rw[av] at rx
    split at he<;>try(cases he;done)
    rename_i l u m b1 cN eW
    split at he<;>try(cases he;done)
    rename_i bo
    obtain⟨cn,eg,gQ,lF⟩:=bo
    cases he
    obtain⟨A,c,b,sz,hs,ba,br,eS,kE⟩:=rx.q1
    have B:=DW (P:=P) cg aO a2 cf tM len cap c eS (fun _=>br) b1 cN eW cn eg gQ true
    have M1:m<=if lb.isSome then m else c:=by split<;>omega
    have Zs:(if lb.isSome then m else c)<=c:=by split<;>omega
    refine .pure H (cv:= .slice (if (if lb.isSome then m else c)=l then A else A.map (·.add (l*s))) (u - l) ((if lb.isSome then m else c) - l)) ?_ ?_
    · simp only[execOp,df,Instr.sliceAt,Instr.slice,Sem.run_bind,run_underlying hu,Result.andThen_ok,hs,B,run_sizeOf ae]
      simp
    · refine .ref id (off+l) (u - l) (m - l) _ _ b sz ba (by omega) (by omega) (fun pA=>?_)
      obtain⟨rfl,ht⟩:=kE (by omega)
      rw[if_neg (by omega)]
      refine⟨?_,Nat.le_trans (Nat.mul_le_mul_right _ (by omega)) ht⟩
      rcases lF with rfl|lF
      · simp[Addr.add]
      · have:=H.sized ba lF
        subst this
        simp[p_,Nat.add_mul]
  · rename_i xs ex av
    rw[av] at rx
    split at he<;>try(cases he;done)
    rename_i l u m b1 cN eW
    split at he<;>try(cases he;done)
    rename_i bo
    obtain⟨cn,eg,gQ,lF⟩:=bo
    cases he
    have bf:=rx.q0
    generalize gA:a.eval x=hq at bf rx
    cases bf with
    | sl _ _ A c fU eK ab aa af ad ah ag=>
      have B:=DW (P:=P) cg aO a2 cf tM xs.length xs.length c ab (fun _=>ab) b1 cN eW cn eg gQ true
      have M1:m<=if lb.isSome then m else c:=by split<;>omega
      have hlen:((xs.drop l).take (u - l)).length=u - l:=by simp;omega
      refine .pure H (cv:= .slice (if (if lb.isSome then m else c)=l then A else A.map (·.add (l*s))) (u - l) ((if lb.isSome then m else c) - l)) ?_ ?_
      · simp only[execOp,df,Instr.sliceAt,Instr.slice,Sem.run_bind,run_underlying hu,Result.andThen_ok,gA,B,run_sizeOf ae]
        simp
      · refine .val _ _ ?_
        have lE:∀i (an:i<u - l),((xs.drop l).take (u - l))[i]'(by rw[hlen];exact an)=xs[l+i]'(by omega):=by intro i an;simp
        have R:=dU.sl (w:=w) (ok:=b5 base okin σ h) ((xs.drop l).take (u - l)) ((lb.isSome||ex)&&m == u) (if (if lb.isSome then m else c)=l then A else A.map (·.add (l*s))) ((if lb.isSome then m else c) - l) fU (fun i j=>eK (l+i) j)
         (by rw[hlen];omega) (fun hex=>by
           rw[hlen]
           simp only[Bool.and_eq_true,Bool.or_eq_true,beq_iff_eq] at hex
           obtain⟨dS,rfl⟩:=hex
           rcases dS with dS|dS
           · rw[if_pos dS]
           · have I:=aa dS
             by_cases hm:lb.isSome=true
             · rw[if_pos hm]
             · rw[if_neg hm]
               have fk:lb=none:=by cases lb<;>simp_all
               have:m=xs.length:=by rw[fk] at eW;cases eW;rfl
               omega)
         (fun i an=>by rw[lE i (by rw[hlen] at an;exact an)];exact af _ _)
         (fun i j an bb=>by
           rw[hlen] at an
           obtain⟨c6,aj,aq,aW⟩:=ad (l+i) j (by omega) bb
           rw[if_neg (by omega),aj]
           rcases lF with rfl|lF
           · refine⟨c6,by simp[Addr.add],aq,?_⟩
             simpa using aW
           · have sd:fU=s:=by
              have lf:=af (l+i) (by omega)
              have kY:=xV lF _ (List.getElem_mem (show l+i<xs.length by omega))
              omega
             subst sd
             refine⟨c6.add (l*fU),rfl,by rw[Addr.qY];exact aq,?_⟩
             rw[add_add]
             · rw[<-Nat.add_assoc,<-Nat.add_mul];exact aW
             · by_cases aS:0<l*fU+(i*fU+j)
               · exact .inr aS
               · have qd:(l+i)*fU+j=0:=by rw[Nat.add_mul];omega
                 rw[qd] at aW
                 refine .inl ?_
                 cases aP:c6.spot with
                 | none=>rfl
                 | some sp=>
                   have e:c6.add 0=c6:=by unfold Addr.add;simp
                   rw[e] at aW
                   unfold World.cell? at aW
                   simp only[aP,Option.isSome_some,if_true] at aW
                   split at aW<;>cases aW)
         (fun pA=>by
           rw[hlen] at pA
           rw[if_neg (by omega)]
           have:=ah (by omega)
           simpa using this)
         (fun i an j bb=>by
           rw[hlen] at an
           have:=lE i an
           simp only[this]
           exact ag _ _ j _)
        rw[hlen] at R
        exact R
  · cases he
 case fieldAddr s x f=>
  simp only[fT] at I
  split at I<;>try(cases I;done)
  rename_i cF hu
  split at I<;>try(cases I;done)
  rename_i fd x8
  split at I<;>try(cases I;done)
  rename_i cq sz y ae h2 aO
  split at I<;>try(cases I;done)
  rename_i a2
  cases I
  have rx:=cg.ez aO
  simp only[evalOp] at he
  split at he
  · rename_i u av
    rw[av] at rx
    obtain⟨c6,eK,hs,ba,br⟩:=rx.xN
    obtain⟨cs,pC,he⟩:=Option.bind_eq_some_iff.1 he
    obtain⟨p,bc,he⟩:=Option.map_eq_some_iff.1 he
    cases he
    refine .pure H (cv:= .pointer (some (c6.add fd.offset))) ?_ (Ep ba br pC bc)
    simp[execOp,df,Instr.fieldAt,run_underlying hu,x8,hs,Instr.sureAddr,Eo h2 a2]
  · rename_i id idx di av
    rw[av] at rx
    cases he
    obtain⟨b,cR,hs,ba⟩:=rx.vT
    have:=bC.ptr (w:=w) (ok:=b5 base okin σ h) (σ:=σ) id idx (di+fd.offset) b cR ba
    refine .pure H ?_ this
    simp[execOp,df,Instr.fieldAt,run_underlying hu,x8,hs,Instr.sureAddr,Eo h2 a2,p_,Nat.add_assoc]
  · cases he
 case field s x f=>
  simp only[fT] at I
  split at I<;>try(cases I;done)
  rename_i cF hu
  split at I<;>try(cases I;done)
  rename_i fd x8
  split at I<;>try(cases I;done)
  rename_i cq sz y ae h2 aO
  split at I<;>try(cases I;done)
  rename_i a2
  cases I
  simp only[evalOp] at he
  split at he<;>try(cases he;done)
  rename_i cs av
  obtain⟨hM,pC,he⟩:=Option.bind_eq_some_iff.1 he
  obtain⟨u,bc,he⟩:=Option.map_eq_some_iff.1 he
  cases he
  have rx:=cg.ez aO
  rw[av] at rx
  obtain⟨vs,cu,ck,ct⟩:=rx.tG
  obtain⟨cv,aj,aq⟩:=DV (P:=P) ae h2 a2 ck ct pC bc
  exact .pure H (by simp[execOp,df,Instr.field,run_underlying hu,x8,cu,asAgg,aj]) aq
 case indexAddr t x i=>
  simp only[fT] at I
  split at I<;>try(cases I;done)
  · rename_i e hu
    split at I<;>try(cases I;done)
    rename_i s y j ae h2 aO
    cases I
    have rx:=cg.ez h2
    have hQ:=cg.ez aO
    simp only[evalOp] at he
    split at he
    · rename_i xs ex k n av bb
      rw[av] at rx;rw[bb] at hQ
      split at he<;>try(cases he;done)
      rename_i aC
      obtain⟨el,lE,he⟩:=Option.bind_eq_some_iff.1 he
      split at he<;>try(cases he;done)
      rename_i dC
      cases he
      obtain⟨an,rfl⟩:=List.getElem?_eq_some_iff.1 lE
      have bf:=rx.q0
      generalize gA:a.eval x=hq at bf rx
      cases bf with
      | sl _ _ A c fU eK ab aa af ad ah ag=>
        have aU:=ah (by omega)
        obtain⟨c6,rfl⟩:=Option.isSome_iff_exists.1 aU
        have es:fU=s:=by have:=af _ an;omega
        subst es
        have b6:n<(xs.length:Int):=by omega
        refine .pure H (cv:= .pointer (some (c6.add (n.toNat*fU)))) ?_ ?_
        · simp[execOp,df,Instr.indexAt,hQ.hN,asIntOf,run_underlying hu,gA,aC,b6,run_sizeOf ae]
        · refine .e0 _ _ (fun nr=>eK n.toNat nr) (fun nr Ex=>?_) (fun nr Ex=>ag _ an nr Ex)
          obtain⟨MB,aj,aq,aW⟩:=ad n.toNat nr an (by omega)
          cases aj
          refine⟨by rw[Addr.qY];exact aq,?_⟩
          rw[add_add]
          · exact aW
          · by_cases aS:0<n.toNat*fU+nr
            · exact .inr aS
            · have qd:n.toNat*fU+nr=0:=by omega
              rw[qd] at aW
              refine .inl ?_
              cases aP:c6.spot with
              | none=>rfl
              | some sp=>
                have e:c6.add 0=c6:=by unfold Addr.add;simp
                rw[e] at aW
                unfold World.cell? at aW
                simp only[aP,Option.isSome_some,if_true] at aW
                split at aW<;>cases aW
    · rename_i id off len cap k n av bb
      rw[av] at rx;rw[bb] at hQ
      split at he<;>try(cases he;done)
      rename_i aC
      cases he
      obtain⟨A,c,b,sz,hs,ba,br,eS,kE⟩:=rx.q1
      obtain⟨rfl,_⟩:=kE (by omega)
      have:=H.sized ba aC.2.2
      subst this
      have R:=bC.ptr (w:=w) (ok:=b5 base okin σ h) (σ:=σ) id (off+n.toNat) 0 b sz ba
      refine .pure H ?_ R
      simp[execOp,df,Instr.indexAt,hQ.hN,asIntOf,run_underlying hu,hs,aC.1,aC.2.1,run_sizeOf ae,p_,Nat.add_mul]
    · cases he
  · rename_i n e hu
    split at I<;>try(cases I;done)
    rename_i cq s y j ae h2 aO a2
    cases I
    have rx:=cg.ez aO
    have hQ:=cg.ez a2
    simp only[evalOp] at he
    split at he
    · rename_i u k nr av bb
      rw[av] at rx;rw[bb] at hQ
      split at he<;>try(cases he;done)
      rename_i aC
      obtain⟨cs,pC,he⟩:=Option.bind_eq_some_iff.1 he
      obtain⟨p,bc,he⟩:=Option.map_eq_some_iff.1 he
      cases he
      obtain⟨c6,eK,hs,ba,br⟩:=rx.xN
      refine .pure H (cv:= .pointer (some (c6.add (nr.toNat*s)))) ?_ (Ep ba br pC bc)
      simp[execOp,df,Instr.indexAt,hQ.hN,asIntOf,run_underlying hu,hs,Instr.sureAddr,aC.1,aC.2,run_sizeOf h2]
    · rename_i id idx di k nr av bb
      rw[av] at rx;rw[bb] at hQ
      split at he<;>try(cases he;done)
      rename_i aC
      cases he
      obtain⟨b,cR,hs,ba⟩:=rx.vT
      have:=bC.ptr (w:=w) (ok:=b5 base okin σ h) (σ:=σ) id idx (di+nr.toNat*s) b cR ba
      refine .pure H ?_ this
      simp[execOp,df,Instr.indexAt,hQ.hN,asIntOf,run_underlying hu,hs,Instr.sureAddr,aC.1,aC.2,run_sizeOf h2,p_,Nat.add_assoc]
    · cases he
 case index t x i=>
  simp only[fT] at I
  split at I<;>try(cases I;done)
  · rename_i n e hu
    split at I<;>try(cases I;done)
    rename_i cq s y j ae h2 aO a2
    split at I<;>try(cases I;done)
    rename_i cf
    cases I
    have rx:=cg.ez aO
    have hQ:=cg.ez a2
    simp only[evalOp] at he
    split at he<;>try(cases he;done)
    rename_i cs k nr av bb
    rw[av] at rx;rw[bb] at hQ
    split at he<;>try(cases he;done)
    rename_i aC
    obtain⟨hM,pC,he⟩:=Option.bind_eq_some_iff.1 he
    obtain⟨u,bc,he⟩:=Option.map_eq_some_iff.1 he
    cases he
    obtain⟨vs,cu,ck,ct⟩:=rx.tG
    obtain⟨cv,aj,aq⟩:=DV (P:=P) ae h2 cf ck ct pC bc
    exact .pure H (by simp[execOp,df,Instr.index,hQ.hN,asIntOf,run_underlying hu,cu,aC.1,aC.2,run_sizeOf h2,aj]) aq
  · rename_i hu
    split at I<;>try(cases I;done)
    rename_i y j ae h2
    cases I
    have rx:=cg.ez ae
    have hQ:=cg.ez h2
    simp only[evalOp] at he
    split at he<;>try(cases he;done)
    rename_i str k nr av bb
    rw[av] at rx;rw[bb] at hQ
    split at he<;>try(cases he;done)
    rename_i aC
    obtain⟨Ey,au,he⟩:=Option.map_eq_some_iff.1 he
    cases he
    refine .pure H (cv:= .int .u8 Ey.toNat) ?_ (.val _ _ (.int _ _))
    simp[execOp,df,Instr.index,hQ.hN,asIntOf,run_underlying hu,rx.vS,aC,au]
 case extract x i=>
  obtain⟨y,bj,rfl⟩:=Option.map_eq_some_iff.1 I
  simp only[evalOp] at he
  split at he<;>try(cases he;done)
  rename_i vs av
  obtain⟨u,hu,he⟩:=Option.map_eq_some_iff.1 he
  cases he
  have rx:=cg.ez bj
  rw[av] at rx
  obtain⟨cs,cu,ck,ct⟩:=rx.DK
  obtain⟨an,rfl⟩:=List.getElem?_eq_some_iff.1 hu
  have b6:i<cs.size:=by omega
  exact .pure H (by simp[execOp,df,Instr.extract,cu,b6]) (ct i an b6)
 case call AB=>
  obtain⟨callee,args,argTypes⟩:=AB
  cases callee with
  | value f=>
    simp only[fT] at I
    split at I<;>try(cases I;done)
    cases I
    simp only[evalOp] at he;cases he
  | invoke _ _=>simp only[fT] at I;cases I
  | builtin b=>
    cases b<;>try(simp only[fT] at I;cases I;done)
    case append=>
     obtain⟨bN,cv,bh,aj,aq,aW,bW,ea⟩:=MF (ty:=o.type) H cg bf I he
     exact ⟨bN,cv,bh,.inl (by simp[execOp,df,resolve,invoke,builtin,aj]),aq,aW,bW,ea⟩
    case len=>
     simp only[fT] at I
     split at I<;>try(cases I;done)
     rename_i t X a' fK
     have v8:args= #[X]:=by rw[<-Array.toList_inj];exact fK
     subst v8
     split at I<;>try(cases I;done)
     · rename_i e x hu av
       cases I
       have rx:=cg.ez av
       simp only[evalOp] at he
       split at he
       · rename_i xs ex aY
         simp only[if_true] at he
         cases he
         rw[aY] at rx
         have bf:=rx.q0
         generalize gA:a.eval X=hq at bf rx
         cases bf with
         | sl _ _ A c _ _ _ _ _ _ _ _=>
           refine .pure H (cv:= .int .i64 xs.length) ?_ (.val _ _ (.int _ _))
           simp[execOp,df,resolve,invoke,builtin,Builtin.len_,a',run_underlying hu,gA,goInt]
       · rename_i id off len cap aY
         simp only[if_true] at he
         cases he
         rw[aY] at rx
         obtain⟨A,c,b,sz,hs,_⟩:=rx.q1
         refine .pure H (cv:= .int .i64 len) ?_ (.val _ _ (.int _ _))
         simp[execOp,df,resolve,invoke,builtin,Builtin.len_,a',run_underlying hu,hs,goInt]
       · simp only[Bool.false_eq_true,if_false] at he;cases he
       · cases he
     · rename_i x hu av
       cases I
       have rx:=cg.ez av
       simp only[evalOp] at he
       split at he
       · simp only[Bool.true_eq_false,if_false] at he;cases he
       · simp only[Bool.true_eq_false,if_false] at he;cases he
       · rename_i s aY
         simp only[if_true] at he
         cases he
         rw[aY] at rx
         refine .pure H (cv:= .int .i64 s.size) ?_ (.val _ _ (.int _ _))
         simp[execOp,df,resolve,invoke,builtin,Builtin.len_,a',run_underlying hu,rx.vS,goInt]
       · cases he
    case min=>
     obtain⟨xs,oZ,rfl⟩:=Option.map_eq_some_iff.1 I
     obtain⟨ck,ct⟩:=r_ cg oZ
     simp only[evalOp] at he
     obtain⟨u,hu,he⟩:=Option.map_eq_some_iff.1 he
     cases he
     cases xs with
     | nil=>simp[fg] at hu
     | cons x xs=>
       cases fK:args.toList with
       | nil=>rw[fK] at ck;simp at ck
       | cons X AD=>
         rw[fK] at ck
         have lU:=ct 0 (by simp) (by simp[fK])
         simp only[fK,List.getElem_cons_zero] at lU
         simp only[List.map_cons] at hu
         cases av:x.cu G F<;>rw[av] at hu<;>try(simp[fg] at hu;done)
         rename_i k n
         rw[av] at lU
         obtain⟨cv,aj,aq⟩:=Em (P:=P) (w:=w) (σ:=σ) (b5 base okin σ h) (xs.map (bn.cu G F)) k n (AD.map a.eval) v hu (by simpa using ck) (fun i an cC=>by
          have:=ct (i+1) (by simpa using an) (by simpa[fK] using cC)
          simpa[fK] using this)
         refine .pure H ?_ aq
         simp[execOp,df,resolve,invoke,builtin,Builtin.min_,fK,lU.hN,aj]
    case max=>
     obtain⟨xs,oZ,rfl⟩:=Option.map_eq_some_iff.1 I
     obtain⟨ck,ct⟩:=r_ cg oZ
     simp only[evalOp] at he
     obtain⟨u,hu,he⟩:=Option.map_eq_some_iff.1 he
     cases he
     cases xs with
     | nil=>simp[fg] at hu
     | cons x xs=>
       cases fK:args.toList with
       | nil=>rw[fK] at ck;simp at ck
       | cons X AD=>
         rw[fK] at ck
         have lU:=ct 0 (by simp) (by simp[fK])
         simp only[fK,List.getElem_cons_zero] at lU
         simp only[List.map_cons] at hu
         cases av:x.cu G F<;>rw[av] at hu<;>try(simp[fg] at hu;done)
         rename_i k n
         rw[av] at lU
         obtain⟨cv,aj,aq⟩:=En (P:=P) (w:=w) (σ:=σ) (b5 base okin σ h) (xs.map (bn.cu G F)) k n (AD.map a.eval) v hu (by simpa using ck) (fun i an cC=>by
          have:=ct (i+1) (by simpa using an) (by simpa[fK] using cC)
          simpa[fK] using this)
         refine .pure H ?_ aq
         simp[execOp,df,resolve,invoke,builtin,Builtin.max_,fK,lU.hN,aj]
end
end Go.Eng
