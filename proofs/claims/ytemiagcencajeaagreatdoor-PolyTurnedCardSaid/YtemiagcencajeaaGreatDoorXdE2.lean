import Derived.Test.YtemiagcencajeaaGreatDoorXdE1
import Derived.Laws.StructEq
import Derived.MapKept
set_option linter.unusedSimpArgs false
set_option linter.unusedVariables false
set_option linter.unusedSectionVars false
namespace Go.Eng
open Go Go.RowKit
section
variable {P:Program} {base:Nat} {okin:Nat->Prop} {σ:Nat->Option (Nat × Nat)} {h:ah} {w:World} {G:Nat->Option I} {F:Nat->I} {a:Act}
theorem R1 {i j sz:Nat} (aB:j<sz):(i*sz+j)/sz=i/\(i*sz+j)%sz=j:=by
 have aF:0<sz:=by omega
 constructor
 · rw[Nat.add_comm,Nat.add_mul_div_right _ _ aF,Nat.div_eq_of_lt aB,Nat.zero_add]
 · rw[Nat.add_comm,Nat.add_mul_mod_self_right,Nat.mod_eq_of_lt aB]
theorem y' (H:cK base okin σ h w) {v:I} {cv:Value} (an:a4 w (br base okin σ h) σ v cv) {ys:List I} (he:elems h v=some ys) {sz:Nat} (c3:∀e∈ys,e.cells.length=sz) (aF:0<sz):
 ∃A c,cv= .slice A ys.length c/\∃arr,(Builtin.firstCells sz ys.length cv).run P w= .ok arr w/\ml w (br base okin σ h) σ sz ys arr:=by
 unfold elems at he
 split at he
 · rename_i xs ex
   injection he with he
   subst he
   have aR:=an.q8
   cases aR with
   | sl _ _ A c fV ey U h2 aA aT cj ei=>
     refine⟨A,c,rfl,?_⟩
     by_cases aG:xs.length=0
     · have ae:xs= []:=List.eq_nil_of_length_eq_zero aG
       subst ae
       cases A with
       | none=>exact ⟨#[],by simp[Builtin.firstCells],by simp,fun i ab=>absurd ab (by simp)⟩
       | some cp=>exact ⟨#[],by simp[Builtin.firstCells,loadCells,loadCellsFrom],by simp,fun i ab=>absurd ab (by simp)⟩
     · have nV:fV=sz:=by
        have:=aA 0 (by omega)
        have:=c3 _ (List.getElem_mem (show 0<xs.length by omega))
        omega
       subst nV
       have a5:=cj (by omega)
       obtain⟨cp,rfl⟩:=Option.isSome_iff_exists.1 a5
       have az:∀k,k<xs.length*fV->w.cell? (cp.add k)=some ((fun k=>ey (k/fV) (k%fV)) k):=by
        intro k ag
        have ab:k/fV<xs.length:=Nat.div_lt_of_lt_mul (by rw[Nat.mul_comm];exact ag)
        obtain⟨R2,e,_,J⟩:=aT (k/fV) (k%fV) ab (Nat.mod_lt _ aF)
        cases e
        have:k/fV*fV+k%fV=k:=by rw[Nat.mul_comm];exact Nat.div_add_mod k fV
        rwa [this] at J
       refine⟨_,by simp only[Builtin.firstCells];exact run_loadCells w cp (xs.length*fV) _ az,?_⟩
       refine⟨by simp,fun i ab=>⟨aA i ab,fun j aB ag=>?_⟩⟩
       have ks:j<fV:=by have:=aA i ab;omega
       have:=R1 (i:=i) ks
       simp only[List.getElem_toArray,List.getElem_map,List.getElem_range,this.1,this.2]
       exact .val _ _ (ei i ab j aB)
 · rename_i id off len cap
   split at he<;>try(cases he;done)
   rename_i blk ad
   split at he<;>try(cases he;done)
   rename_i hle
   cases he
   obtain⟨A,c,b,b_,rfl,aq,av,aW,bT⟩:=an.q9
   have hlen:((blk.drop off).take len).length=len:=by simp;omega
   rw[hlen]
   refine⟨A,c,rfl,?_⟩
   by_cases aG:len=0
   · subst aG
     refine⟨#[],?_,by simp,fun i ab=>absurd ab (by simp)⟩
     cases A with
     | none=>simp[Builtin.firstCells]
     | some cp=>simp[Builtin.firstCells,loadCells,loadCellsFrom]
   · obtain⟨kf,fV,arr,ty,f1,f2,f3⟩:=H.blk id blk ad
     rw[aq] at f1;cases f1
     have k3:∀i,i<len->∃ab:off+i<blk.length,blk[off+i].cells.length=sz:=by
      intro i ab
      refine⟨by omega,c3 _ ?_⟩
      have:(((blk.drop off).take len)[i]'(by rw[hlen];exact ab))=blk[off+i]'(by omega):=by simp
      rw[<-this];exact List.getElem_mem _
     have nV:b_=sz:=by
      obtain⟨ab,e⟩:=k3 0 (by omega)
      have:=(f3 _ ab).1;omega
     subst nV
     obtain⟨rfl,_⟩:=bT (by omega)
     have az:∀k,k<len*b_->w.cell? ((⟨b,off*b_,none⟩:Addr).add k)=some ((fun k=>(arr[off*b_+k]?).getD undef) k):=by
      intro k ag
      have ab:k/b_<len:=Nat.div_lt_of_lt_mul (by rw[Nat.mul_comm];exact ag)
      obtain⟨bV,e⟩:=k3 _ ab
      have hm:=Nat.mod_lt k aF
      obtain⟨l1,bL,_⟩:=(f3 _ bV).2 (k%b_) (by omega)
      have:(off+k/b_)*b_+k%b_=off*b_+k:=by rw[Nat.add_mul,Nat.add_assoc];congr 1;rw[Nat.mul_comm];exact Nat.div_add_mod k b_
      rw[this] at bL
      rw[p2]
      simp only[World.cell?,f2,Option.isSome_none,Bool.false_eq_true,if_false]
      rw[bL];rfl
     refine⟨_,by simp only[Builtin.firstCells];exact run_loadCells w ⟨b,off*b_,none⟩ (len*b_) _ az,?_⟩
     refine⟨by simp[hlen],fun i ab=>?_⟩
     have R3:i<len:=by rw[hlen] at ab;exact ab
     obtain⟨bV,e⟩:=k3 i R3
     have bJ:((blk.drop off).take len)[i]=blk[off+i]'(by omega):=by simp
     rw[bJ]
     refine⟨e,fun j aB ag=>?_⟩
     obtain⟨l1,bL,cq⟩:=(f3 _ bV).2 j aB
     have:(off+i)*b_+j=off*b_+(i*b_+j):=by rw[Nat.add_mul];omega
     rw[this] at bL
     simp only[List.getElem_toArray,List.getElem_map,List.getElem_range]
     rw[bL];exact cq
 · cases he
theorem Ii (n:Nat):∀(r c:Nat),256<=c->c<=2*n->Builtin.growBy n r c<=2*n
 | 0,c,_,h=>h
 | r+1,c,U,h2=>by
   unfold Builtin.growBy
   split
   · exact h2
   · exact Ii n r _ (by omega) (by omega)
theorem R4 {n c:Nat} (h:c<n):Builtin.nextslicecap n c<=2*n:=by
 unfold Builtin.nextslicecap
 split
 · omega
 · split
   · omega
   · exact Ii n 4 c (by omega) (by omega)
theorem ml.append {ok:Nat->Prop} {sz:Nat} {xs ys:List I} {a1 eZ:Array Value} (U:ml w ok σ sz xs a1) (h2:ml w ok σ sz ys eZ):ml w ok σ sz (xs++ys) (a1++eZ):=by
 refine⟨by simp[U.1,h2.1,Nat.add_mul],fun i ab=>?_⟩
 by_cases ae:i<xs.length
 · have e:(xs++ys)[i]=xs[i]:=List.getElem_append_left ae
   rw[e]
   refine⟨(U.2 i ae).1,fun j aB ag=>?_⟩
   have bF:i*sz+j<a1.size:=by rw[U.1];exact o9 ae (by have:=(U.2 i ae).1;omega)
   rw[Array.getElem_append_left bF]
   exact (U.2 i ae).2 j aB bF
 · have aQ:i - xs.length<ys.length:=by simp at ab;omega
   have e:(xs++ys)[i]=ys[i - xs.length]:=List.getElem_append_right (by omega)
   rw[e]
   refine⟨(h2.2 _ aQ).1,fun j aB ag=>?_⟩
   have hle:xs.length*sz<=i*sz:=Nat.mul_le_mul_right _ (by omega)
   have bF:(i - xs.length)*sz+j<eZ.size:=by rw[h2.1];exact o9 aQ (by have:=(h2.2 _ aQ).1;omega)
   have p6:a1.size<=i*sz+j:=by rw[U.1];omega
   rw[Array.getElem_append_right p6]
   have av:i*sz+j - a1.size=(i - xs.length)*sz+j:=by rw[U.1,Nat.sub_mul];omega
   simp only[av]
   exact (h2.2 _ aQ).2 j aB bF
theorem Ij {t u e e':TypeId} (aN:P.underlying t=some (.slice e)) (hu:P.underlying u=some (.slice e')) {sz bytes:Nat} (ax:jl P e=some sz) (ad:CN P e=some bytes) {z:I} (ar:zeroOf P e=some z)
 (A:Option Addr) (n c:Nat) (B:Option Addr) (m d:Nat) (Ik:c<n+m) (cR:0<bytes) (sB:(n+m)*bytes<=35184372088832) {mn new:Array Value}
 (ay:(Builtin.firstCells sz n (.slice A n c)).run P w.drew= .ok mn w.drew) (ak:(Builtin.firstCells sz m (.slice B m d)).run P w.drew= .ok new w.drew):
 ∃sC rest,n+m<=sC/\(Builtin.append_ #[t,u] t #[.slice A n c,.slice B m d]).run P w= .ok (.slice (some ⟨w.heap.size,0,none⟩) (n+m) sC) (w.drew.alloc (.cells (mn++new++rest) e))/\(rest.size=(sC -(n+m))*z.cells.length):=by
 obtain⟨ai,dA,fW,y_,_⟩:=uB (P:=P) (w:=w.drew) (σ:=fun _=>none) (ok:=fun _=>True) ar
 obtain⟨i,ab,ai3⟩:=Option.map_eq_some_iff.1 ax
 have C7:i.bytes=bytes:=by
  obtain⟨jc,aq,av⟩:=Option.map_eq_some_iff.1 ad
  rw[ab] at aq;cases aq;exact av
 have Il:=R4 Ik
 have R5:¬(Builtin.nextslicecap (n+m) c*i.bytes>2^48):=by
  rw[C7]
  have:Builtin.nextslicecap (n+m) c*bytes<=2*(n+m)*bytes:=Nat.mul_le_mul_right _ Il
  rw[Nat.mul_assoc] at this
  omega
 have U:¬(n+m<=c):=by omega
 have lx:i.bytes≠0:=by omega
 refine⟨(Question.appendCap (n+m) c e).cut (w.tape w.drawn (.appendCap (n+m) c e)),Builtin.zeroCells ai.cells ((Question.appendCap (n+m) c e).cut (w.tape w.drawn (.appendCap (n+m) c e)) -(n+m)),by simp[Question.cut],?_,by simp[Builtin.zeroCells,fW.1]⟩
 simp[Builtin.append_,run_underlying aN,run_underlying hu,run_sizeOf ax,Builtin.lenOf,run_typeInfo ab,U,lx,R5,Question.forced,ay,ak,dA,newRow]
theorem cK.drew (H:cK base okin σ h w):cK base okin σ h w.drew/\Prog base okin σ h w σ h w.drew:=by
 have P:Prog base okin σ h w σ h w.drew:=⟨fun _ _ x=>x,fun _ _ ay=>⟨ay,rfl⟩,(Below.refl _ _).drew,fun _=>Nat.le_refl _⟩
 refine⟨⟨H.val,fun id gk iL=>?_,H.inj,H.base⟩,P⟩
 obtain⟨b,s,a,t,aq,av,aW⟩:=H.blk id gk iL
 refine⟨b,s,a,t,aq,av,fun i ab=>⟨(aW i ab).1,fun j aB=>?_⟩⟩
 obtain⟨v,f1,f2⟩:=(aW i ab).2 j aB
 exact ⟨v,f1,P.rep f2⟩
theorem cK.kill (H:cK base okin σ h w) (id:Nat):cK base okin σ {h with cells:=au h.cells id none} w/\Prog base okin σ h w σ {h with cells:=au h.cells id none} w:=by
 have P:Prog base okin σ h w σ {h with cells:=au h.cells id none} w:=by
  refine⟨fun _ _ x=>x,fun b ad ay=>⟨?_,rfl⟩,Below.refl _ _,fun _=>Nat.le_refl _⟩
  rcases ay with ay|⟨U,h2⟩
  · exact .inl ay
  · refine .inr ⟨U,fun i s ax az=>h2 i s ax ?_⟩
    by_cases e:i=id
    · simp[au,e] at az
    · simpa[au,e] using az
 refine⟨⟨H.val,fun i gk iL=>?_,fun i jc b s ao U h2=>H.inj i jc b s ao ?_ ?_,H.base⟩,P⟩
 · by_cases e:i=id
   · simp[au,e] at iL
   · have p0:h.cells i=some gk:=by simpa[au,e] using iL
     obtain⟨b,s,a,t,aq,av,aW⟩:=H.blk i gk p0
     refine⟨b,s,a,t,aq,av,fun i ab=>⟨(aW i ab).1,fun j aB=>?_⟩⟩
     obtain⟨v,f1,f2⟩:=(aW i ab).2 j aB
     exact ⟨v,f1,P.rep f2⟩
 · by_cases e:i=id
   · simp[au,e] at U
   · simpa[au,e] using U
 · by_cases e:jc=id
   · simp[au,e] at h2
   · simpa[au,e] using h2
theorem ml.cell {ok:Nat->Prop} {sz:Nat} {es:List I} {arr:Array Value} (H:ml w ok σ sz es arr) (rest:Array Value) (i:Nat) (ab:i<es.length):
 es[i].cells.length=sz/\∀j (aB:j<es[i].cells.length),∃v,(arr++rest)[i*sz+j]? =some v/\a4 w ok σ (es[i].cells[j]) v:=by
 refine⟨(H.2 i ab).1,fun j aB=>?_⟩
 have bF:i*sz+j<arr.size:=by rw[H.1];exact o9 ab (by have:=(H.2 i ab).1;omega)
 exact ⟨_,by rw[Array.getElem?_append_left bF];exact Array.getElem?_eq_getElem bF,(H.2 i ab).2 j aB bF⟩
theorem za {ys:List I} {sz:Nat} (h:(ys.all fun e=>e.cells.length == sz)=true):∀e∈ys,e.cells.length=sz:=fun e he=>by
 simpa using List.all_eq_true.1 h e he
theorem ml.wL {ok:Nat->Prop} {sz:Nat} {es:List I} {arr:Array Value} (H:ml w ok σ sz es arr) (aF:0<sz) (ax:∀e∈es,e.cells.all I.cd=true):∀v∈arr.toList,v.oneCell'=true:=by
 intro v an
 obtain⟨k,ag,rfl⟩:=List.getElem_of_mem an
 have j4:k<arr.size:=by simpa using ag
 have kK:k<es.length*sz:=by rw[<-H.1];exact j4
 have ab:k/sz<es.length:=Nat.div_lt_of_lt_mul (by rw[Nat.mul_comm];exact kK)
 have aB:=Nat.mod_lt k aF
 have e:k/sz*sz+k%sz=k:=by rw[Nat.mul_comm];exact Nat.div_add_mod k sz
 have az:=(H.2 _ ab).1
 have r:=(H.2 _ ab).2 (k%sz) (by omega) (by rw[e];exact j4)
 have jd:=r.wL (List.all_eq_true.1 (ax _ (List.getElem_mem ab)) _ (List.getElem_mem (by omega)))
 simpa[e] using jd
theorem R6 (H:cK base okin σ h w) (bI:ki G (br base okin σ h) σ w F a) {r:Nat} (aR:σ r=none) {args:Array Operand} {argTypes:Array TypeId} {ty:TypeId} {mj:ke}
 (J:fU P (.call {callee:= .builtin .append,args,argTypes})=some mj) {aZ:Nat} {v:I} {h':ah} {c:eb}
 (he:evalOp aZ r (aS.ev G F) h mj=some (v,h',c)):
 ∃bd cv aP,(Builtin.append_ argTypes ty (args.map a.eval)).run P w= .ok cv aP/\Prog base okin σ h w bd h' aP/\cK base okin bd h' aP/\a4 aP (br base okin bd h') bd v cv/\∀id,id≠r->bd id=σ id:=by
 simp only[fU] at J
 split at J<;>try(cases J;done)
 rename_i t u X Y aN fy
 have C_:argTypes= #[t,u]:=by rw[<-Array.toList_inj];exact aN
 have sD:args= #[X,Y]:=by rw[<-Array.toList_inj];exact fy
 subst C_;subst sD
 split at J<;>try(cases J;done)
 rename_i e e' hu zb
 split at J<;>try(cases J;done)
 rename_i sz bytes z x y ax ad ar ae aQ
 split at J<;>try(cases J;done)
 rename_i Im
 cases J
 simp only[evalOp] at he
 obtain⟨ys,e6,he⟩:=Option.bind_eq_some_iff.1 he
 split at he<;>try(cases he;done)
 rename_i oo
 obtain⟨a_,bn,bN⟩:=oo
 have Io:∀q∈ys,q.cells.length=sz:=fun q aM=>by
  have:=List.all_eq_true.1 bN q aM
  simp only[Bool.and_eq_true,beq_iff_eq] at this
  exact this.1
 have R7:∀q∈ys,q.cells.all I.cd=true:=fun q aM=>by
  have:=List.all_eq_true.1 bN q aM
  simp only[Bool.and_eq_true,beq_iff_eq] at this
  exact this.2
 have rx:=bI.ec ae
 have ry:=bI.ec aQ
 obtain⟨wV,wW⟩:=H.drew
 obtain⟨B,d,C',new,zc,nn⟩:=y' (P:=P) H ry e6 Io a_
 obtain⟨ai4,o4,Ip,Iq,Da,zd⟩:=y' (P:=P) wV (wW.rep ry) e6 Io a_
 rw[C'] at Ip;cases Ip
 rw[C'] at zc Da
 have R8:(#[X,Y]:Array Operand).map a.eval= #[a.eval X,a.eval Y]:=by simp
 rw[R8,C']
 have Ir:∀(A:Option Addr) (n fc:Nat),ys.length=0->n<=fc->
  (Builtin.append_ #[t,u] ty #[.slice A n fc,.slice B ys.length d]).run P w= .ok (.slice A n fc) w:=fun A n fc j5 hle=>by
  have mo:new.toList= []:=List.eq_nil_of_length_eq_zero (by have:=nn.1;rw[j5,Nat.zero_mul] at this;simpa using this)
  rw[j5] at zc|-
  cases A<;>simp[Builtin.append_,run_underlying hu,run_underlying zb,run_sizeOf ax,Builtin.lenOf,hle,zc,mo,storeCells]
 split at he
 ·
  rename_i xs ex ze
  rw[ze] at rx
  split at he
  · rename_i j5
    cases he
    have nk:=rx.q8
    generalize kL:a.eval X=jy at nk rx
    cases nk with
    | sl _ _ A fc _ _ hle _ _ _ _ _=>
      refine⟨σ,_,w,Ir A xs.length fc j5 hle,⟨fun _ _ x=>x,fun _ _ ay=>⟨ay,rfl⟩,Below.refl _ _,fun _=>Nat.le_refl _⟩,H,rx,fun _ _=>rfl⟩
  split at he<;>try(cases he;done)
  rename_i jz
  obtain⟨db,dc,fK,kj⟩:=jz
  cases he
  have R9:=za kj
  obtain⟨A,fc,jA,mn,hold,Fold⟩:=y' (P:=P) wV (wW.rep rx) (ys:=xs) rfl R9 a_
  have Ik:fc=xs.length:=by
   have nk:=rx.q8
   rw[jA] at nk
   cases nk with
   | sl _ _ _ _ _ _ _ h2=>exact h2 db
  rw[jA] at hold|-
  obtain⟨sC,rest,bu,ca,c5⟩:=Ij (P:=P) (w:=w) hu zb ax ad ar A xs.length fc B ys.length d (by omega) bn dc hold Da
  have Db:=Fold.append zd
  have wX:=wV.alloc aR (xs++ys) (mn++Iq++rest) e sz (fun i ab=>Db.cell rest i ab)
  refine⟨_,_,_,by simpa[Builtin.append_] using ca,wW.trans wX.2,wX.1,?_,fun id bz=>by simp[au,bz]⟩
  refine .ref r 0 _ _ _ sC w.heap.size sz (by simp[au]) bu bu (fun _=>⟨by simp,?_⟩)
  rw[show w.heap.size=w.drew.heap.size from rfl,CR]
  simp only[Array.size_append,Fold.1,zd.1,c5,Im]
  rw[<-Nat.add_mul,<-Nat.add_mul]
  exact Nat.le_of_eq (by congr 1;omega)
 ·
  rename_i id off len cap ze
  split at he
  · rename_i j5
    cases he
    rw[ze] at rx
    obtain⟨A,fc,b,b_,jA,bL,cq,eE,iE⟩:=rx.q9
    rw[jA] at rx|-
    exact ⟨σ,_,w,Ir A len fc j5 cq,⟨fun _ _ x=>x,fun _ _ ay=>⟨ay,rfl⟩,Below.refl _ _,fun _=>Nat.le_refl _⟩,H,rx,fun _ _=>rfl⟩
  split at he<;>try(cases he;done)
  rename_i zf
  have zf:h.shut id=false:=by simpa using zf
  obtain⟨blk,ot,he⟩:=Option.bind_eq_some_iff.1 he
  split at he<;>try(cases he;done)
  rename_i jz
  obtain⟨db,dc,fK,kj⟩:=jz
  rw[ze] at rx
  have Is:=za kj
  obtain⟨A,fc,b,b_,jA,bL,cq,eE,iE⟩:=rx.q9
  obtain⟨kf,ai5,arr,R_,f1,f2,f3⟩:=H.blk id blk ot
  rw[bL] at f1;cases f1
  have It:0<blk.length->b_=sz:=fun aG=>by
   have:=(f3 0 aG).1
   have:=Is _ (List.getElem_mem aG)
   omega
  have R':iK w b=arr.size:=by unfold iK;rw[f2]
  have stay:len+ys.length<=fc->b_=sz->
   (Builtin.append_ #[t,u] ty #[.slice A len fc,.slice B ys.length d]).run P w= .ok (.slice A (len+ys.length) fc) (w.setRow b (arr.toList.take (off*sz+len*sz)++new.toList++arr.toList.drop (off*sz+len*sz+new.toList.length)).toArray)/\
     off*sz+len*sz+new.toList.length<=arr.toList.length:=by
   intro hle kt
   subst kt
   obtain⟨sD,Dc⟩:=iE (by omega)
   rw[R'] at Dc
   have zg:new.toList.length=ys.length*b_:=by simp[nn.1]
   have p3:off*b_+len*b_+new.toList.length<=arr.toList.length:=by
    rw[zg]
    have:(off+(len+ys.length))*b_<=(off+fc)*b_:=Nat.mul_le_mul_right _ (by omega)
    rw[Nat.add_mul,Nat.add_mul] at this
    simp;omega
   refine⟨?_,p3⟩
   have eO:=run_storeCells_at (P:=P) b (off*b_+len*b_) R_ new.toList 0 arr w f2 (by simp only[Nat.add_zero];simpa using p3) (nn.wL a_ R7)
   simp only[Nat.add_zero] at eO
   have Sa:(⟨b,off*b_,none⟩:Addr).add (len*b_)=⟨b,off*b_+len*b_,none⟩:=p2 _ _ _
   subst sD
   simp[Builtin.append_,run_underlying hu,run_underlying zb,run_sizeOf ax,Builtin.lenOf,hle,zc,Sa,eO]
  have Dd:∀(kt:b_=sz),off*sz+len*sz+new.toList.length<=arr.toList.length->∀i (ab:i<blk.length) j (aB:j<sz),¬(off+len<=i/\i<off+len+ys.length)->
   ∃v,(arr.toList.take (off*sz+len*sz)++new.toList++arr.toList.drop (off*sz+len*sz+new.toList.length)).toArray[i*sz+j]? =some v/\a4 w (br base okin σ h) σ (blk[i].cells[j]'(by rw[(f3 i ab).1,kt];exact aB)) v:=by
   intro kt p3 i ab j aB zh
   subst kt
   obtain⟨v0,aq,av⟩:=(f3 i ab).2 j (by rw[(f3 i ab).1];exact aB)
   refine⟨v0,?_,av⟩
   have bF:=(Array.getElem?_eq_some_iff.1 aq).1
   have l2:=(Array.getElem?_eq_some_iff.1 aq).2
   have zg:new.toList.length=ys.length*b_:=by simp[nn.1]
   rw[List.getElem?_toArray,List.getElem?_eq_getElem (by simp at p3|-;omega),q_ p3 _ _ (by simpa using bF),dif_neg]
   · simpa using l2
   · rw[zg]
     rintro ⟨dA,fW⟩
     apply zh
     have aW:off*b_+len*b_=(off+len)*b_:=by rw[Nat.add_mul]
     have bT:off*b_+len*b_+ys.length*b_=(off+len+ys.length)*b_:=by rw[Nat.add_mul,Nat.add_mul]
     rw[aW] at dA
     rw[bT] at fW
     constructor
     · refine Nat.le_of_not_lt fun Sb=>?_
       have:=o9 Sb aB;omega
     · refine Nat.lt_of_not_le fun Sc=>?_
       have:(off+len+ys.length)*b_<=i*b_:=Nat.mul_le_mul_right _ Sc
       omega
  have De:off*sz+len*sz+new.toList.length<=arr.toList.length->∀i (ab:i<ys.length) j (aB:j<sz),
   ∃v,(arr.toList.take (off*sz+len*sz)++new.toList++arr.toList.drop (off*sz+len*sz+new.toList.length)).toArray[(off+len+i)*sz+j]? =some v/\a4 w (br base okin σ h) σ (ys[i].cells[j]'(by rw[(nn.2 i ab).1];exact aB)) v:=by
   intro p3 i ab j aB
   have zg:new.toList.length=ys.length*sz:=by simp[nn.1]
   have bF:=o9 ab aB
   have aW:(off+len+i)*sz+j=off*sz+len*sz+(i*sz+j):=by rw[Nat.add_mul,Nat.add_mul];omega
   have lL:(off+len+i)*sz+j<arr.toList.length:=by omega
   rw[List.getElem?_toArray,List.getElem?_eq_getElem (by simp at p3 lL|-;omega)]
   refine⟨_,rfl,?_⟩
   rw[q_ p3 _ _ lL,dif_pos (by omega)]
   have fj:(off+len+i)*sz+j -(off*sz+len*sz)=i*sz+j:=by omega
   have ag:i*sz+j<new.size:=by rw[nn.1];exact bF
   have:=(nn.2 i ab).2 j (by rw[(nn.2 i ab).1];exact aB) ag
   simpa[fj] using this
  have Iu:∀(o:Nat),o+new.toList.length<=arr.toList.length->arr.size<=(arr.toList.take o++new.toList++arr.toList.drop (o+new.toList.length)).toArray.size:=by
   intro o ay
   simp at ay|-;omega
  split at he
  ·
   rename_i Dc
   split at he<;>try(cases he;done)
   rename_i Il
   cases he
   have kt:=It (by omega)
   obtain⟨s1,s2⟩:=stay (by omega) kt
   rw[jA]
   have W:=H.write (blk':=blk.take (off+len)++ys++blk.drop (off+len+ys.length)) (arr':=(arr.toList.take (off*sz+len*sz)++new.toList++arr.toList.drop (off*sz+len*sz+new.toList.length)).toArray) ot zf bL f2 (Iu _ s2) (fun i ab=>by
    have ly:off+len+ys.length<=blk.length:=by omega
    have bV:i<blk.length:=by simp at ab;omega
    have bJ:=q_ (cs:=blk) (vs:=ys) (off:=off+len) ly i ab bV
    rw[bJ]
    by_cases cU:off+len<=i/\i<off+len+ys.length
    · simp only[dif_pos cU]
      refine⟨by rw[kt];exact (nn.2 _ (by omega)).1,fun j aB=>?_⟩
      have ks:j<sz:=by have:=(nn.2 (i -(off+len)) (by omega)).1;omega
      obtain⟨v,lK,mi⟩:=De s2 (i -(off+len)) (by omega) j ks
      have:off+len+(i -(off+len))=i:=by omega
      rw[this] at lK
      exact ⟨v,by rw[kt];exact lK,mi⟩
    · simp only[dif_neg cU]
      refine⟨(f3 i bV).1,fun j aB=>?_⟩
      obtain⟨v,lK,mi⟩:=Dd kt s2 i bV j (by rw[<-kt,<-(f3 i bV).1];exact aB) cU
      exact ⟨v,by rw[kt];exact lK,mi⟩)
   refine⟨σ,_,_,s1,W.2,W.1,?_,fun _ _=>rfl⟩
   exact .ref id off _ cap A fc b b_ bL (by omega) eE (fun iM=>⟨(iE iM).1,Nat.le_trans (iE iM).2 (W.2.grow b)⟩)
  · rename_i Dc
    split at he<;>try(cases he;done)
    rename_i Df
    cases he
    obtain⟨Df,ai6⟩:=Df
    subst Df
    have kt:=It (by omega)
    rw[jA]
    by_cases lL:len+ys.length<=fc
    ·
     obtain⟨s1,s2⟩:=stay lL kt
     simp only[Nat.zero_mul,Nat.zero_add] at s1 s2 Dd De
     have R:=H.rename (r:=r) (blk':=blk.take len++ys) (arr':=(arr.toList.take (len*sz)++new.toList++arr.toList.drop (len*sz+new.toList.length)).toArray) ot zf aR bL f2 (Iu _ s2) (fun i ab=>by
      by_cases cU:i<len
      · have bJ:(blk.take len++ys)[i]=blk[i]'(by omega):=by
         rw[List.getElem_append_left (by simp;omega)];simp
        rw[bJ]
        refine⟨(f3 i (by omega)).1,fun j aB=>?_⟩
        obtain⟨v,lK,mi⟩:=Dd kt s2 i (by omega) j (by rw[<-kt,<-(f3 i (by omega)).1];exact aB) (by omega)
        exact ⟨v,by rw[kt];exact lK,mi⟩
      · have p7:min len blk.length=len:=by omega
        have bV:i - len<ys.length:=by simp[p7] at ab;omega
        have bJ:(blk.take len++ys)[i]=ys[i - len]:=by
         rw[List.getElem_append_right (by simp;omega)];simp[p7]
        rw[bJ]
        refine⟨by rw[kt];exact (nn.2 _ bV).1,fun j aB=>?_⟩
        obtain⟨v,lK,mi⟩:=De s2 (i - len) bV j (by rw[<-(nn.2 _ bV).1];exact aB)
        have:len+(i - len)=i:=by omega
        rw[this] at lK
        exact ⟨v,by rw[kt];exact lK,mi⟩)
     refine⟨_,_,_,s1,R.2,R.1,?_,fun iu bz=>by simp[au,bz]⟩
     refine .ref r 0 _ _ A fc b b_ (by simp[au]) lL lL (fun iM=>⟨(iE iM).1,Nat.le_trans (iE iM).2 (R.2.grow b)⟩)
    ·
     obtain⟨Sd,Iv⟩:=wV.kill id
     have ou:elems h (.ref id 0 len cap)=some (blk.take len):=by
      simp only[elems,ot];rw[if_pos db];simp
     have Se:a4 w (br base okin σ h) σ (.ref id 0 len cap) (a.eval X):=rx
     have p8:(blk.take len).length=len:=by simp;omega
     obtain⟨ai7,c',Iw,mn,hold,Fold⟩:=y' (P:=P) wV (wW.rep Se) ou (fun q aM=>Is q (List.mem_of_mem_take aM)) a_
     rw[jA,p8] at Iw;cases Iw
     rw[jA,p8] at hold
     obtain⟨sC,rest,bu,ca,c5⟩:=Ij (P:=P) (w:=w) hu zb ax ad ar A len fc B ys.length d (by omega) bn dc hold Da
     have Db:=Fold.append zd
     have wX:=Sd.alloc aR (blk.take len++ys) (mn++Iq++rest) e sz (fun i ab=>by
      obtain⟨dA,fW⟩:=Db.cell rest i ab
      refine⟨dA,fun j aB=>?_⟩
      obtain⟨v,y1,ed⟩:=fW j aB
      exact ⟨v,y1,Iv.rep ed⟩)
     refine⟨_,_,_,by simpa[Builtin.append_] using ca,(wW.trans Iv).trans wX.2,wX.1,?_,fun iu bz=>by simp[au,bz]⟩
     refine .ref r 0 _ _ _ sC w.heap.size sz (by simp[au]) bu bu (fun _=>⟨by simp,?_⟩)
     rw[show w.heap.size=w.drew.heap.size from rfl,CR]
     simp only[Array.size_append,Fold.1,zd.1,c5,Im,p8]
     rw[<-Nat.add_mul,<-Nat.add_mul]
     exact Nat.le_of_eq (by congr 1;omega)
 · cases he
end
end Go.Eng
namespace Go.Eng
open Go Go.RowKit
section
variable {P:Program} {w:World} {σ:Nat->Option (Nat × Nat)}
theorem Ix {e:TypeId} {k:IntKind} (hu:P.underlying e=some (.int k)) (cs:Array Value) (i:Nat) (v:Value) (h:cs[i]? =some v):(part e cs i).run P w= .ok v w:=by
 have dF:ni P e=some false:=by simp[ni,hu]
 simp[part,wN dF,h]
theorem Iy:∀ {xs ys:List I} {b:Bool},eV xs ys=some b->xs.length=ys.length/\
 ∀i (h:i<xs.length) (h':i<ys.length),∃k x y,xs[i]= .int k x/\ys[i]= .int k y
 | [],[],b,_=>⟨rfl,fun i h=>absurd h (by simp)⟩
 | .int k x::xs,.int k' y::ys,b,h=>by
   simp only[eV] at h
   split at h
   · rename_i ag
     subst ag
     obtain⟨r,U,_⟩:=Option.map_eq_some_iff.1 h
     obtain⟨l,q⟩:=Iy U
     refine⟨by simp[l],fun i ab bV=>?_⟩
     cases i with
     | zero=>exact ⟨k,x,y,rfl,rfl⟩
     | succ i=>exact q i (by simpa using ab) (by simpa using bV)
   · cases h
theorem Iz {e:TypeId} {je:IntKind} (hu:P.underlying e=some (.int je)) (d:Nat) (xs ys:Array Value):∀(l:List Nat),
 (∀i∈l,∃k x y,xs[i]? =some (.int k x)/\ys[i]? =some (.int k y))->
 (forIn l ((none,()):Option Bool × Unit) (fun i ai8=>do
         let Dg <-part e xs (i*1)
         let Sf <-part e ys (i*1)
         let Dg <-Op.equalIn (d+1) e Dg Sf
         if (!Dg)=true then pure (ForInStep.done (some false,())) else pure (ForInStep.yield (none,()))):Sem (Option Bool × Unit)).run P w
   = .ok (if l.all (fun i=>match xs[i]?,ys[i]? with
       | some (.int _ x),some (.int _ y)=>x == y
       | _,_=>false) then (none,()) else (some false,())) w
 | [],_=>by simp
 | i::l,h=>by
   obtain⟨k,x,y,aq,av⟩:=h i (by simp)
   have a6:=Iz hu d xs ys l (fun j aB=>h j (by simp[aB]))
   rw[List.forIn_cons]
   have heq:(Op.equalIn (d+1) e (.int k x) (.int k y)).run P w= .ok (x == y) w:=by
    unfold Op.equalIn
    simp[run_underlying hu]
   simp only[Sem.run_bind,Nat.mul_one,Ix hu xs i _ aq,Ix hu ys i _ av,Result.andThen_ok,heq,List.all_cons,aq,av]
   by_cases mq:x=y
   · subst mq
     simp only[Nat.mul_one] at a6
     simp only[beq_self_eq_true,Bool.not_true,Bool.false_eq_true,if_false,Sem.run_pure,Result.andThen_ok,Bool.true_and]
     exact a6
   · have:(x == y)=false:=by simpa using mq
     simp[this]
theorem IA:∀ {xs ys:List I} {b:Bool} (wY wZ:Nat->Option Value),eV xs ys=some b->
 (∀i (h:i<xs.length) k x,xs[i]= .int k x->wY i=some (.int k x))->(∀i (h:i<ys.length) k y,ys[i]= .int k y->wZ i=some (.int k y))->
 ((List.range' 0 xs.length).all fun i=>match wY i,wZ i with
       | some (.int _ x),some (.int _ y)=>x == y
       | _,_=>false)=b
 | [],[],b,wY,wZ,h,_,_=>by simp only[eV] at h;cases h;rfl
 | .int k x::xs,.int k' y::ys,b,wY,wZ,h,ae,aQ=>by
   simp only[eV] at h
   split at h
   · rename_i ag
     subst ag
     obtain⟨r,U,h2⟩:=Option.map_eq_some_iff.1 h
     have a6:=IA (fun i=>wY (i+1)) (fun i=>wZ (i+1)) U (fun i ab k x cU=>ae (i+1) (by simpa using ab) k x (by simpa using cU)) (fun i ab k y cU=>aQ (i+1) (by simpa using ab) k y (by simpa using cU))
     have a0:=ae 0 (by simp) k x rfl
     have b0:=aQ 0 (by simp) k y rfl
     rw[<-h2,<-a6]
     simp only[List.length_cons,List.range'_succ,List.all_cons,a0,b0,Nat.zero_add]
     congr 1
     rw[<-List.map_add_range' (a:=1) (s:=0),List.all_map]
     congr 1
     funext i
     simp[Nat.add_comm]
   · cases h
theorem Sg {ok:Nat->Prop} {t e:TypeId} {n:Nat} {je:IntKind} (aN:P.underlying t=some (.array n e)) (ax:jl P e=some 1) (hu:P.underlying e=some (.int je)) {xs ys:List I} {jy jQ:Value}
 (ae:a4 w ok σ (.agg xs) jy) (aQ:a4 w ok σ (.agg ys) jQ) {b:Bool} (ad:eV xs ys=some b) (ak:xs.length=n):
 (Op.equal t jy jQ).run P w= .ok b w/\∃l4 nW,jy= .agg l4/\jQ= .agg nW:=by
 obtain⟨l4,rfl,bG,bD⟩:=ae.ur
 obtain⟨nW,rfl,ds,de⟩:=aQ.ur
 refine⟨?_,l4,nW,rfl,rfl⟩
 obtain⟨az,ag⟩:=Iy ad
 show (Op.equalIn (9999+1) t (.agg l4) (.agg nW)).run P w=_
 unfold Op.equalIn
 simp only[Sem.run_bind,run_underlying aN,Result.andThen_ok,run_sizeOf ax]
 rw[Std.Legacy.Range.forIn_eq_forIn_range']
 simp only[Std.Legacy.Range.size,Nat.sub_zero,Nat.add_sub_cancel,Nat.div_one]
 have L:=Iz (w:=w) hu 9998 l4 nW (List.range' 0 n) (fun i ab=>by
  have bV:i<n:=by simpa using ab
  obtain⟨k,x,y,aq,av⟩:=ag i (by omega) (by omega)
  have a1:=bD i (by omega) (by omega)
  have eZ:=de i (by omega) (by omega)
  rw[aq] at a1;rw[av] at eZ
  exact ⟨k,x,y,by rw[Array.getElem?_eq_getElem (by omega),a1.jP],by rw[Array.getElem?_eq_getElem (by omega),eZ.jP]⟩)
 have A:=IA (fun i=>l4[i]?) (fun i=>nW[i]?) ad
  (fun i ab k x cU=>by
    have a1:=bD i ab (by omega)
    rw[cU] at a1
    rw[Array.getElem?_eq_getElem (by omega),a1.jP])
  (fun i ab k y cU=>by
    have a1:=de i ab (by omega)
    rw[cU] at a1
    rw[Array.getElem?_eq_getElem (by omega),a1.jP])
 rw[ak] at A
 simp only[A] at L
 simp only[L,Result.andThen_ok]
 cases b<;>simp
end
end Go.Eng
namespace Go.Eng
open Go Go.RowKit
section
variable {P:Program} {base:Nat} {okin:Nat->Prop} {σ:Nat->Option (Nat × Nat)} {h:ah} {w:World} {G:Nat->Option I} {F:Nat->I} {a:Act}
theorem IB (ok:Nat->Prop):∀(xs:List I) (k:IntKind) (x:Int) (cs:List Value) (v:I),j2 (fun a b=>if b<a then b else a) (.int k x::xs)=some v->
 xs.length=cs.length->(∀i (h:i<xs.length) (h':i<cs.length),a4 w ok σ xs[i] cs[i])->
 ∃cv,(cs.foldlM Builtin.min2 (.int k x):Sem Value).run P w= .ok cv w/\a4 w ok σ v cv
 | [],k,x,cs,v,h,az,_=>by
   have:cs= []:=List.eq_nil_of_length_eq_zero (by simpa using az.symm)
   subst this
   simp only[j2] at h;cases h
   exact ⟨.int k x,by simp,.val _ _ (.int _ _)⟩
 | y::xs,k,x,[],v,h,az,_=>by simp at az
 | y::xs,k,x,c::cs,v,h,az,aR=>by
   have r0:=aR 0 (by simp) (by simp)
   simp only[List.getElem_cons_zero] at r0
   cases y<;>simp only[j2] at h<;>try(cases h;done)
   rename_i k' y
   split at h<;>try(cases h;done)
   rename_i ag
   subst ag
   rw[r0.jP]
   obtain⟨cv,aq,av⟩:=IB ok xs k (if y<x then y else x) cs v h (by simpa using az) (fun i ab bV=>by
    have:=aR (i+1) (by simp;omega) (by simp;omega)
    simpa using this)
   exact ⟨cv,by simpa[List.foldlM_cons,Builtin.min2] using aq,av⟩
theorem IC (ok:Nat->Prop):∀(xs:List I) (k:IntKind) (x:Int) (cs:List Value) (v:I),j2 (fun a b=>if a<b then b else a) (.int k x::xs)=some v->
 xs.length=cs.length->(∀i (h:i<xs.length) (h':i<cs.length),a4 w ok σ xs[i] cs[i])->
 ∃cv,(cs.foldlM Builtin.max2 (.int k x):Sem Value).run P w= .ok cv w/\a4 w ok σ v cv
 | [],k,x,cs,v,h,az,_=>by
   have:cs= []:=List.eq_nil_of_length_eq_zero (by simpa using az.symm)
   subst this
   simp only[j2] at h;cases h
   exact ⟨.int k x,by simp,.val _ _ (.int _ _)⟩
 | y::xs,k,x,[],v,h,az,_=>by simp at az
 | y::xs,k,x,c::cs,v,h,az,aR=>by
   have r0:=aR 0 (by simp) (by simp)
   simp only[List.getElem_cons_zero] at r0
   cases y<;>simp only[j2] at h<;>try(cases h;done)
   rename_i k' y
   split at h<;>try(cases h;done)
   rename_i ag
   subst ag
   rw[r0.jP]
   obtain⟨cv,aq,av⟩:=IC ok xs k (if x<y then y else x) cs v h (by simpa using az) (fun i ab bV=>by
    have:=aR (i+1) (by simp;omega) (by simp;omega)
    simpa using this)
   exact ⟨cv,by simpa[List.foldlM_cons,Builtin.max2] using aq,av⟩
theorem ID {f:Field} {sz:Nat} (ax:jl P f.type=some sz) (aG:sz≠0) (cp:Addr):(fieldPlace cp f).run P w= .ok (cp.add f.offset) w:=by
 simp[fieldPlace,run_sizeOf ax,aG]
theorem IE {ok:Nat->Prop} {v:I} {cp:Addr} {ey:Nat->Value} (bL:∀j,j<v.cells.length->ok cp.block/\w.cell? (cp.add j)=some (ey j)) (cq:∀j (h:j<v.cells.length),du w ok (v.cells[j]) (ey j))
 {off sz:Nat} {bS:Bool} {cs:List I} {u:I} (J:cut v.cells off sz=some cs) (aF:partOf bS cs=some u):a4 w ok σ (.e4 u) (.pointer (some (cp.add off))):=by
 obtain⟨b8,bQ,cF⟩:=uu J
 have Sh:∀j,j<cs.length->ok (cp.add off).block/\w.cell? ((cp.add off).add j)=some (ey (off+j)):=by
  intro j aB
  obtain⟨j3,dz⟩:=bL (off+j) (by omega)
  refine⟨by rw[Addr.q6];exact j3,?_⟩
  have Si:cp.spot=none\/0<off+j:=by
   by_cases aG:0<off+j
   · exact .inr aG
   · have p9:off+j=0:=by omega
     rw[p9] at dz
     refine .inl ?_
     cases ax:cp.spot with
     | none=>rfl
     | some s=>
       have e:cp.add 0=cp:=by unfold Addr.add;simp
       rw[e] at dz
       unfold World.cell? at dz
       simp only[ax,Option.isSome_some,if_true] at dz
       split at dz<;>cases dz
  rw[add_add _ _ _ Si];exact dz
 have hu:u.cells=cs:=by
  rcases CU aF with⟨rfl,rfl⟩|⟨rfl,rfl,ax⟩
  · rfl
  · cases u<;>first|rfl|simp[I.cd] at ax
 refine .e4 u _ (fun j=>ey (off+j)) (fun j aB=>Sh j (by rw[<-hu];exact aB)) (fun j aB=>?_)
 have ks:j<cs.length:=by rw[<-hu];exact aB
 have e:u.cells[j]=v.cells[off+j]'(by omega):=by
  have:=cF j ks (by omega)
  simp only[hu];exact this
 rw[e];exact cq _ _
theorem zi {x:Sem Next} {s:Sem Value} (ae:x=(do pure (.value (<-s)))) {cv:Value} {aP:World} (e:s.run P w= .ok cv aP):x.run P w= .ok (.value cv) aP:=by
 rw[ae];simp[e]
theorem cK.sized (H:cK base okin σ h w) {id b sz s:Nat} (ax:σ id=some (b,sz)) (ad:sizedB s (h.cells id)=true):sz=s:=by
 cases J:h.cells id with
 | none=>rw[J] at ad;cases ad
 | some blk=>
   rw[J] at ad
   simp only[sizedB,Bool.and_eq_true,decide_eq_true_eq] at ad
   obtain⟨kf,fV,arr,ty,aq,_,aW⟩:=H.blk id blk J
   rw[ax] at aq;cases aq
   have U:=(aW 0 ad.1).1
   have h2:=za ad.2 _ (List.getElem_mem ad.1)
   omega
theorem Sj {v:Value} (h:q5 v=some (.sl [] true)):v= .slice none 0 0:=by
 unfold q5 at h
 split at h
 · obtain⟨as,_,e⟩:=Option.map_eq_some_iff.1 h;cases e
 · unfold q4 at h
   split at h<;>first|rfl|cases h
theorem Sk {op:BinOp} {t e:TypeId} {x y:Operand} {A:Option Addr} {l c:Nat} (hu:P.underlying t=some (.slice e)) (a5:A.isSome=true) (neg:Bool) (ay:op=if neg then .neq else .eql):
 (do eqGuard op t x y (.slice A l c) (.slice none 0 0);binOp op t (.slice A l c) (.slice none 0 0):Sem Value).run P w= .ok (.bool neg) w:=by
 obtain⟨cp,rfl⟩:=Option.isSome_iff_exists.1 a5
 have aq:(Op.equal t (.slice (some cp) l c) (.slice none 0 0)).run P w= .ok false w:=by
  unfold Op.equal Op.maxDepth Op.equalIn
  simp[run_underlying hu]
 cases neg
 · simp only[Bool.false_eq_true,if_false] at ay
   subst ay
   have av:(binOp .eql t (.slice (some cp) l c) (.slice none 0 0)).run P w= .ok (.bool false) w:=by
    show (do pure (.bool (<-Op.equal t (.slice (some cp) l c) (.slice none 0 0))):Sem Value).run P w=_
    simp[aq]
   simp[eqGuard,av]
 · simp only[if_true] at ay
   subst ay
   have av:(binOp .neq t (.slice (some cp) l c) (.slice none 0 0)).run P w= .ok (.bool true) w:=by
    show (do pure (.bool !(<-Op.equal t (.slice (some cp) l c) (.slice none 0 0))):Sem Value).run P w=_
    simp[aq]
   simp[eqGuard,av]
theorem IF (H:cK base okin σ h w) (bI:ki G (br base okin σ h) σ w F a) {aZ r:Nat} {o:Oper} {op:BinOp} {t e IG:TypeId} {x y:Operand} {kI:aS} (cL:o.op= .binOp op t x y IG) (hu:P.underlying t=some (.slice e)) (U:en x=some kI) (h2:en y=some (.c (.sl [] true)))
 (neg:Bool) (ay:op=if neg then .neq else .eql) {v:I} {h':ah} {c:eb} (he:evalOp aZ r (aS.ev G F) h (.isnil neg kI)=some (v,h',c)):uv base okin σ h w r v h' ((execOp a.eval o).run P w):=by
 have aQ:a.eval y= .slice none 0 0:=by
  cases y with
  | const k=>
    obtain⟨z,ar,e⟩:=Option.map_eq_some_iff.1 h2
    cases e
    exact Sj ar
  | _=>cases h2
 have rx:=bI.ec U
 have fin:∀A l fc,a.eval x= .slice A l fc->A.isSome=true->uv base okin σ h w r (.bool neg) h ((execOp a.eval o).run P w):=by
  intro A l fc ex a5
  have av:=Sk (P:=P) (w:=w) (x:=x) (y:=y) (l:=l) (c:=fc) hu a5 neg ay
  rw[<-ex,<-aQ] at av
  exact .pure H (cv:= .bool neg) (zi (by simp only[execOp,cL]) av) (.val _ _ (.bool _))
 simp only[evalOp] at he
 split at he<;>try(cases he;done)
 · rename_i xs ex an
   split at he<;>try(cases he;done)
   rename_i sE
   cases he
   rw[an] at rx
   have aR:=rx.q8
   generalize kL:a.eval x=jy at aR
   cases aR with
   | sl _ _ A c _ _ _ _ _ _ cj _=>exact fin _ _ _ kL (cj sE)
 · rename_i id off len cap an
   split at he<;>try(cases he;done)
   rename_i sE
   cases he
   rw[an] at rx
   obtain⟨A,c,b,sz,jA,_,bG,Sl,ds⟩:=rx.q9
   obtain⟨rfl,_⟩:=ds (by omega)
   exact fin _ _ _ jA rfl
theorem IH:∀(m:List (Int × FuncId)) (n:Int) (es:List MapEntry) (i:Nat),es.length=m.length->(∀j (h:j<m.length) (h':j<es.length),es[j].key= .int .i64 m[j].1/\es[j].val= .func (.func m[j].2) #[] #[])->
 ∃r,Instr.findNow (.int .i64) (.int .i64 n) es i=some r/\r.map (·.2)=(m.lookup n).map fun f=>Value.func (.func f) #[] #[]
 | [],n,[],i,_,_=>⟨none,rfl,rfl⟩
 | (k,f)::m,n,e::es,i,az,ae=>by
   obtain⟨aq,av⟩:=ae 0 (by simp) (by simp)
   simp only[List.getElem_cons_zero] at aq av
   unfold Instr.findNow
   rw[aq]
   by_cases ag:n=k
   · subst ag
     refine⟨some (i,e.val),by simp[Instr.sameNow],by simp[av]⟩
   · obtain⟨r,U,h2⟩:=IH m n es (i+1) (by simpa using az) (fun j h h'=>by have:=ae (j+1) (by simp;omega) (by simp;omega);simp only[List.getElem_cons_succ] at this;exact this)
     have ad:(n == k)=false:=by simpa using ag
     refine⟨r,by simp[Instr.sameNow,ad,U],?_⟩
     rw[h2,List.lookup_cons]
     simp[ad]
 | [],_,_::_,_,az,_=>by simp at az
 | _::_,_,[],_,az,_=>by simp at az
theorem Sm (H:cK base okin σ h w) (bI:ki G (br base okin σ h) σ w F a) {aZ r:Nat} (aR:σ r=none) (o:Oper) {mj:ke} (J:fU P o.op=some mj)
 {v:I} {h':ah} {c:eb} (he:evalOp aZ r (aS.ev G F) h mj=some (v,h',c)):
 uv base okin σ h w r v h' ((execOp a.eval o).run P w):=by
 cases cL:o.op<;>rw[cL] at J<;>try(simp only[fU] at J;cases J;done)
 case panic x=>
  simp only[fU] at J;cases J
  simp only[evalOp,aS.ev] at he;cases he
 case move x=>
  obtain⟨y,aQ,rfl⟩:=Option.map_eq_some_iff.1 J
  simp only[evalOp] at he;cases he
  exact .pure H (by simp[execOp,cL]) (bI.ec aQ)
 case assign x=>
  obtain⟨y,aQ,rfl⟩:=Option.map_eq_some_iff.1 J
  simp only[evalOp] at he;cases he
  exact .pure H (by simp[execOp,cL]) (bI.ec aQ)
 case pick fc x y=>
  simp only[fU] at J
  split at J<;>try(cases J;done)
  rename_i c' kI o6 U h2 aA
  cases J
  simp only[evalOp] at he
  split at he<;>try(cases he;done)
  rename_i t aN
  cases he
  have ad:=bI.ec U
  rw[aN] at ad
  refine .pure H (cv:=if t then a.eval x else a.eval y) (by simp[execOp,cL,ad.q7,asBool]) ?_
  cases t
  · exact bI.ec aA
  · exact bI.ec h2
 case alloc e=>
  obtain⟨z,ar,rfl⟩:=Option.map_eq_some_iff.1 J
  simp only[evalOp] at he;cases he
  obtain⟨ai,dA,fW,y_,Sn,_⟩:=uB (P:=P) (w:=w) (σ:=σ) (ok:=br base okin σ h) ar
  obtain⟨bd,aP,aq,av,aW,bT,fj⟩:=Ic (P:=P) H aR (t:=e) (a4.val _ _ Sn) y_
  exact ⟨bd,_,aP,.inl (by simp[execOp,cL,Instr.alloc,dA,aq]),av,aW,bT,fj⟩
 case box e x=>
  obtain⟨y,aQ,rfl⟩:=Option.map_eq_some_iff.1 J
  simp only[evalOp] at he
  split at he<;>try(cases he;done)
  rename_i ax
  cases he
  obtain⟨bd,aP,aq,av,aW,bT,fj⟩:=Ic (P:=P) H aR (t:=e) (bI.ec aQ) ax
  exact ⟨bd,_,aP,.inl (by simp[execOp,cL,Instr.box,aq]),av,aW,bT,fj⟩
 case build t ps=>
  obtain⟨rfl,cv,aq,av⟩:=RP bI J he
  exact .pure H (by simp[execOp,cL] at aq|-;simp[aq]) av
 case buildSlice t n ps=>
  obtain⟨rfl,cv,aP,aq,av,aW,bT⟩:=RV H bI J he
  exact ⟨σ,cv,aP,.inl (by simp[execOp,cL] at aq|-;simp[aq]),av,aW,bT,fun _ _=>rfl⟩
 case load t x=>
  simp only[fU] at J
  split at J<;>try(cases J;done)
  rename_i bS s y U h2 aA
  split at J<;>try(cases J;done)
  rename_i aT
  cases J
  obtain⟨rfl,cv,aq,av⟩:=RE (P:=P) H U h2 aT (bI.ec aA) he
  exact .pure H (by simp[execOp,cL,aq]) av
 case store t x y=>
  simp only[fU] at J
  split at J<;>try(cases J;done)
  rename_i s kI o6 U h2 aA
  cases J
  obtain⟨rfl,aP,aq,av,aW⟩:=RF (P:=P) H U (bI.ec h2) (bI.ec aA) he
  exact ⟨σ,undef,aP,.inr ⟨by simp[execOp,cL,aq],rfl⟩,av,aW,.undef _,fun _ _=>rfl⟩
 case binOp op t x y IG=>
  simp only[fU] at J
  split at J<;>try(cases J;done)
  rename_i kI o6 U h2
  split at J<;>try(cases J;done)
  · cases J
    simp only[evalOp] at he
    obtain⟨u,an,he⟩:=Option.map_eq_some_iff.1 he
    cases he
    obtain⟨cv,aq,av⟩:=C1 (P:=P) 0 op t x y (bI.ec U) (bI.ec h2) an (fun e=>absurd e (by decide))
    exact .pure H (zi (by simp only[execOp,cL]) aq) av
  · rename_i hu
    cases J
    simp only[evalOp] at he
    obtain⟨u,an,he⟩:=Option.map_eq_some_iff.1 he
    cases he
    obtain⟨cv,aq,av⟩:=C1 (P:=P) 1 op t x y (bI.ec U) (bI.ec h2) an (fun _=>hu)
    exact .pure H (zi (by simp only[execOp,cL]) aq) av
  · cases J
    simp only[evalOp] at he
    obtain⟨u,an,he⟩:=Option.map_eq_some_iff.1 he
    cases he
    obtain⟨cv,aq,av⟩:=C1 (P:=P) 2 op t x y (bI.ec U) (bI.ec h2) an (fun e=>absurd e (by decide))
    exact .pure H (zi (by simp only[execOp,cL]) aq) av
  · rename_i n e hu
    split at J<;>try(cases J;done)
    rename_i k II o8
    have So:∃d,P.depth=d+1+1:=⟨2*(P.types.size+Made.depth),rfl⟩
    have Sp:P.eqGuardType P.depth t=false:=by
     obtain⟨d,a3⟩:=So
     rw[a3]
     simp[Program.eqGuardType,hu,II]
    have main:∀neg,ke.eqA neg n kI o6=mj->(op=if neg then .neq else .eql)->uv base okin σ h w r v h' ((execOp a.eval o).run P w):=by
     rintro neg rfl zj
     simp only[evalOp] at he
     split at he<;>try(cases he;done)
     rename_i xs ys ae aQ
     split at he<;>try(cases he;done)
     rename_i ak
     obtain⟨b,ad,he⟩:=Option.map_eq_some_iff.1 he
     cases he
     have rx:=bI.ec U
     have ry:=bI.ec h2
     rw[ae] at rx;rw[aQ] at ry
     obtain⟨aq,l4,nW,ex,nX⟩:=Sg (P:=P) hu o8 II rx ry ad ak
     rw[ex,nX] at aq
     have aY:=run_eqGuard_agg w op t x y l4 nW Sp
     refine .pure H (cv:= .bool (b != neg)) ?_ (.val _ _ (.bool _))
     cases neg
     · simp only[Bool.false_eq_true,if_false] at zj
       subst zj
       have av:(binOp .eql t (.agg l4) (.agg nW)).run P w= .ok (.bool b) w:=by
        show (do pure (.bool (<-Op.equal t (.agg l4) (.agg nW))):Sem Value).run P w=_
        simp[aq]
       simp[execOp,cL,ex,nX,aY,av]
     · simp only[if_true] at zj
       subst zj
       have av:(binOp .neq t (.agg l4) (.agg nW)).run P w= .ok (.bool !b) w:=by
        show (do pure (.bool !(<-Op.equal t (.agg l4) (.agg nW))):Sem Value).run P w=_
        simp[aq]
       simp[execOp,cL,ex,nX,aY,av]
    split at J
    · rename_i ay
      cases J
      exact main false rfl (by simpa using ay)
    · split at J<;>try(cases J;done)
      rename_i ay
      cases J
      exact main true rfl (by simpa using ay)
  · rename_i e hu
    split at J<;>try(cases J;done)
    split at J
    · rename_i ay
      cases J
      exact IF H bI cL hu U h2 false (by simpa using ay) he
    · split at J<;>try(cases J;done)
      rename_i ay
      cases J
      exact IF H bI cL hu U h2 true (by simpa using ay) he
 case lookup t x i ok=>
  cases ok with
  | false=>simp only[fU] at J;cases J
  | true=>
    simp only[fU] at J
    split at J<;>try(cases J;done)
    rename_i k e hu
    split at J<;>try(cases J;done)
    rename_i kI jc ag ar U h2
    cases J
    simp only[evalOp] at he
    split at he<;>try(cases he;done)
    rename_i m n ae ab
    cases he
    have rx:=bI.ec U
    have o_:=bI.ec h2
    rw[ae] at rx;rw[ab] at o_
    have fb:=rx.HU
    generalize kL:a.eval x=jy at fb
    cases fb with
    | mp _ IJ es clock j3 dz ov w0=>
      obtain⟨ai,dA,fW,_⟩:=H4 (w:=w) ar
      have Sq:ai= .nilFunc:=by
       unfold q5 at fW
       split at fW
       · obtain⟨as,_,e⟩:=Option.map_eq_some_iff.1 fW;cases e
       · unfold q4 at fW
         split at fW<;>first|rfl|cases fW
      subst Sq
      obtain⟨q,f1,f2⟩:=IH m n es.toList 0 (by simpa using ov) (fun j h h'=>by simpa using w0 j h (by simpa using h'))
      have IK:=MapKept.run_checkKey (w:=w) ag (k:= .int .i64 n) (by simp[MapKept.IsKey]) es.isEmpty 9999
      have IL:=MapKept.run_findKey (w:=w) ag f1
      have sF:=MapKept.run_getObj_map (P:=P) dz
      cases aM:m.lookup n with
      | none=>
        rw[aM] at f2
        have re:q=none:=by simpa using f2
        subst re
        refine .pure H (cv:= .tuple #[.nilFunc,.bool false]) ?_ (.bK _ _ rfl fun i ab bV=>?_)
        · simp[execOp,cL,Instr.lookup,run_underlying hu,kL,o_.jP,sF,IK,IL,dA]
        · match i,ab with
          | 0,_=>exact .val _ _ .nilfn
          | 1,_=>exact .val _ _ (.bool _)
      | some f=>
        rw[aM] at f2
        obtain⟨⟨ai9,aja⟩,rfl,f3⟩:=Option.map_eq_some_iff.1 f2
        simp only at f3
        subst f3
        refine .pure H (cv:= .tuple #[.func (.func f) #[] #[],.bool true]) ?_ (.bK _ _ rfl fun i ab bV=>?_)
        · simp[execOp,cL,Instr.lookup,run_underlying hu,kL,o_.jP,sF,IK,IL]
        · match i,ab with
          | 0,_=>exact .fn f [] [] #[] #[] rfl rfl (fun i h=>absurd h (by simp)) (fun i h=>absurd h (by simp))
          | 1,_=>exact .val _ _ (.bool _)
 case unOp op t x=>
  obtain⟨y,aQ,rfl⟩:=Option.map_eq_some_iff.1 J
  simp only[evalOp] at he
  obtain⟨u,an,he⟩:=Option.map_eq_some_iff.1 he
  cases he
  obtain⟨cv,aq,av⟩:=RL (P:=P) op (bI.ec aQ) an
  exact .pure H (by simp[execOp,cL,aq]) av
 case convert s d x=>
  simp only[fU] at J
  split at J<;>try(cases J;done)
  rename_i p_ k y U h2 aA
  cases J
  simp only[evalOp] at he
  split at he<;>try(cases he;done)
  rename_i k' n ae
  cases he
  have rx:=bI.ec aA
  rw[ae] at rx
  refine .pure H (cv:= .int k (k.wrap n)) ?_ (.val _ _ (.int _ _))
  simp[execOp,cL,rx.jP,convert,run_underlying U,run_underlying h2,Conv.intToInt]
 case makeFunc f first caps=>
  cases f with
  | func f=>
    simp only[fU] at J
    split at J<;>try(cases J;done)
    rename_i x y U h2
    cases J
    simp only[evalOp] at he;cases he
    obtain⟨bG,bD⟩:=sx bI U
    obtain⟨ds,de⟩:=sx bI h2
    refine .pure H (cv:= .func (.func f) (first.map a.eval) (caps.map a.eval)) (by simp[execOp,cL,Instr.makeFunc]) ?_
    refine .fn f _ _ _ _ (by simp[bG]) (by simp[ds]) (fun i ab bV=>?_) (fun i ab bV=>?_)
    · have q:=bD i (by simpa using ab) (by simpa using bV)
      rw[Array.getElem_toList] at q
      simpa using q
    · have q:=de i (by simpa using ab) (by simpa using bV)
      rw[Array.getElem_toList] at q
      simpa using q
  | _=>simp only[fU] at J;cases J
 case makeSlice t x y=>
  obtain⟨bd,cv,aP,aq,av,aW,bT,fj⟩:=RX H bI aR J he
  exact ⟨bd,cv,aP,.inl (by simp[execOp,cL,aq]),av,aW,bT,fj⟩
 case slice t x cw ab jN=>
  simp only[fU] at J
  split at J<;>try(cases J;done)
  rename_i e hu
  split at J<;>try(cases J;done)
  rename_i s y uy bV kJ U h2 aA aT cj
  split at J<;>try(cases J;done)
  rename_i uz
  have uz:(kJ.isSome&&bV.isNone)=false:=by simpa only[Bool.not_eq_true] using uz
  cases J
  have rx:=bI.ec h2
  simp only[evalOp] at he
  split at he
  · rename_i id off len cap ae
    rw[ae] at rx
    split at he<;>try(cases he;done)
    rename_i l u m b1 eo k4
    split at he<;>try(cases he;done)
    rename_i aM
    obtain⟨db,dc,fK,kj⟩:=aM
    cases he
    obtain⟨A,c,b,sz,jA,bL,cq,eE,iE⟩:=rx.q9
    have B:=H9 (P:=P) bI aA aT cj uz len cap c eE (fun _=>cq) b1 eo k4 db dc fK true
    have Sr:m<=if kJ.isSome then m else c:=by split<;>omega
    have ajb:(if kJ.isSome then m else c)<=c:=by split<;>omega
    refine .pure H (cv:= .slice (if (if kJ.isSome then m else c)=l then A else A.map (·.add (l*s))) (u - l) ((if kJ.isSome then m else c) - l)) ?_ ?_
    · simp only[execOp,cL,Instr.sliceAt,Instr.slice,Sem.run_bind,run_underlying hu,Result.andThen_ok,jA,B,run_sizeOf U]
      simp
    · refine .ref id (off+l) (u - l) (m - l) _ _ b sz bL (by omega) (by omega) (fun sE=>?_)
      obtain⟨rfl,ow⟩:=iE (by omega)
      rw[if_neg (by omega)]
      refine⟨?_,Nat.le_trans (Nat.mul_le_mul_right _ (by omega)) ow⟩
      rcases kj with rfl|kj
      · simp[Addr.add]
      · have:=H.sized bL kj
        subst this
        simp[p2,Nat.add_mul]
  · rename_i xs ex ae
    rw[ae] at rx
    split at he<;>try(cases he;done)
    rename_i l u m b1 eo k4
    split at he<;>try(cases he;done)
    rename_i aM
    obtain⟨db,dc,fK,kj⟩:=aM
    cases he
    have aR:=rx.q8
    generalize kL:a.eval x=jy at aR rx
    cases aR with
    | sl _ _ A c fV ey bu ca c5 mr ku mX=>
      have B:=H9 (P:=P) bI aA aT cj uz xs.length xs.length c bu (fun _=>bu) b1 eo k4 db dc fK true
      have Sr:m<=if kJ.isSome then m else c:=by split<;>omega
      have hlen:((xs.drop l).take (u - l)).length=u - l:=by simp;omega
      refine .pure H (cv:= .slice (if (if kJ.isSome then m else c)=l then A else A.map (·.add (l*s))) (u - l) ((if kJ.isSome then m else c) - l)) ?_ ?_
      · simp only[execOp,cL,Instr.sliceAt,Instr.slice,Sem.run_bind,run_underlying hu,Result.andThen_ok,kL,B,run_sizeOf U]
        simp
      · refine .val _ _ ?_
        have k3:∀i (ab:i<u - l),((xs.drop l).take (u - l))[i]'(by rw[hlen];exact ab)=xs[l+i]'(by omega):=by intro i ab;simp
        have R:=du.sl (w:=w) (ok:=br base okin σ h) ((xs.drop l).take (u - l)) ((kJ.isSome||ex)&&m == u) (if (if kJ.isSome then m else c)=l then A else A.map (·.add (l*s))) ((if kJ.isSome then m else c) - l) fV (fun i j=>ey (l+i) j)
         (by rw[hlen];omega) (fun hex=>by
           rw[hlen]
           simp only[Bool.and_eq_true,Bool.or_eq_true,beq_iff_eq] at hex
           obtain⟨ei,rfl⟩:=hex
           rcases ei with ei|ei
           · rw[if_pos ei]
           · have J:=ca ei
             by_cases hm:kJ.isSome=true
             · rw[if_pos hm]
             · rw[if_neg hm]
               have pa:kJ=none:=by cases kJ<;>simp_all
               have:m=xs.length:=by rw[pa] at k4;cases k4;rfl
               omega)
         (fun i ab=>by rw[k3 i (by rw[hlen] at ab;exact ab)];exact c5 _ _)
         (fun i j ab aB=>by
           rw[hlen] at ab
           obtain⟨cp,aq,av,aW⟩:=mr (l+i) j (by omega) aB
           rw[if_neg (by omega),aq]
           rcases kj with rfl|kj
           · refine⟨cp,by simp[Addr.add],av,?_⟩
             simpa using aW
           · have nV:fV=s:=by
              have nY:=c5 (l+i) (by omega)
              have uD:=za kj _ (List.getElem_mem (show l+i<xs.length by omega))
              omega
             subst nV
             refine⟨cp.add (l*fV),rfl,by rw[Addr.q6];exact av,?_⟩
             rw[add_add]
             · rw[<-Nat.add_assoc,<-Nat.add_mul];exact aW
             · by_cases aG:0<l*fV+(i*fV+j)
               · exact .inr aG
               · have p9:(l+i)*fV+j=0:=by rw[Nat.add_mul];omega
                 rw[p9] at aW
                 refine .inl ?_
                 cases ax:cp.spot with
                 | none=>rfl
                 | some sp=>
                   have e:cp.add 0=cp:=by unfold Addr.add;simp
                   rw[e] at aW
                   unfold World.cell? at aW
                   simp only[ax,Option.isSome_some,if_true] at aW
                   split at aW<;>cases aW)
         (fun sE=>by
           rw[hlen] at sE
           rw[if_neg (by omega)]
           have:=ku (by omega)
           simpa using this)
         (fun i ab j aB=>by
           rw[hlen] at ab
           have:=k3 i ab
           simp only[this]
           exact mX _ _ j _)
        rw[hlen] at R
        exact R
  · cases he
 case fieldAddr s x f=>
  simp only[fU] at J
  split at J<;>try(cases J;done)
  rename_i b9 hu
  split at J<;>try(cases J;done)
  rename_i fd zk
  split at J<;>try(cases J;done)
  rename_i bS sz y U h2 aA
  split at J<;>try(cases J;done)
  rename_i aT
  cases J
  have rx:=bI.ec aA
  simp only[evalOp] at he
  split at he
  · rename_i u ae
    rw[ae] at rx
    obtain⟨cp,ey,jA,bL,cq⟩:=rx.y6
    obtain⟨cs,pb,he⟩:=Option.bind_eq_some_iff.1 he
    obtain⟨p,aF,he⟩:=Option.map_eq_some_iff.1 he
    cases he
    refine .pure H (cv:= .pointer (some (cp.add fd.offset))) ?_ (IE bL cq pb aF)
    simp[execOp,cL,Instr.fieldAt,run_underlying hu,zk,jA,Instr.sureAddr,ID h2 aT]
  · rename_i id idx cN ae
    rw[ae] at rx
    cases he
    obtain⟨b,b_,jA,bL⟩:=rx.wK
    have:=a4.ptr (w:=w) (ok:=br base okin σ h) (σ:=σ) id idx (cN+fd.offset) b b_ bL
    refine .pure H ?_ this
    simp[execOp,cL,Instr.fieldAt,run_underlying hu,zk,jA,Instr.sureAddr,ID h2 aT,p2,Nat.add_assoc]
  · cases he
 case field s x f=>
  simp only[fU] at J
  split at J<;>try(cases J;done)
  rename_i b9 hu
  split at J<;>try(cases J;done)
  rename_i fd zk
  split at J<;>try(cases J;done)
  rename_i bS sz y U h2 aA
  split at J<;>try(cases J;done)
  rename_i aT
  cases J
  simp only[evalOp] at he
  split at he<;>try(cases he;done)
  rename_i cs ae
  obtain⟨jO,pb,he⟩:=Option.bind_eq_some_iff.1 he
  obtain⟨u,aF,he⟩:=Option.map_eq_some_iff.1 he
  cases he
  have rx:=bI.ec aA
  rw[ae] at rx
  obtain⟨vs,ev,bG,bD⟩:=rx.ur
  obtain⟨cv,aq,av⟩:=H7 (P:=P) U h2 aT bG bD pb aF
  exact .pure H (by simp[execOp,cL,Instr.field,run_underlying hu,zk,ev,asAgg,aq]) av
 case indexAddr t x i=>
  simp only[fU] at J
  split at J<;>try(cases J;done)
  · rename_i e hu
    split at J<;>try(cases J;done)
    rename_i s y j U h2 aA
    cases J
    have rx:=bI.ec h2
    have jR:=bI.ec aA
    simp only[evalOp] at he
    split at he
    · rename_i xs ex k n ae aB
      rw[ae] at rx;rw[aB] at jR
      split at he<;>try(cases he;done)
      rename_i ak
      obtain⟨el,k3,he⟩:=Option.bind_eq_some_iff.1 he
      split at he<;>try(cases he;done)
      rename_i c3
      cases he
      obtain⟨ab,rfl⟩:=List.getElem?_eq_some_iff.1 k3
      have aR:=rx.q8
      generalize kL:a.eval x=jy at aR rx
      cases aR with
      | sl _ _ A c fV ey bu ca c5 mr ku mX=>
        have a5:=ku (by omega)
        obtain⟨cp,rfl⟩:=Option.isSome_iff_exists.1 a5
        have es:fV=s:=by have:=c5 _ ab;omega
        subst es
        have bF:n<(xs.length:Int):=by omega
        refine .pure H (cv:= .pointer (some (cp.add (n.toNat*fV)))) ?_ ?_
        · simp[execOp,cL,Instr.indexAt,jR.jP,asIntOf,run_underlying hu,kL,ak,bF,run_sizeOf U]
        · refine .e4 _ _ (fun np=>ey n.toNat np) (fun np IM=>?_) (fun np IM=>mX _ ab np IM)
          obtain⟨R2,aq,av,aW⟩:=mr n.toNat np ab (by omega)
          cases aq
          refine⟨by rw[Addr.q6];exact av,?_⟩
          rw[add_add]
          · exact aW
          · by_cases aG:0<n.toNat*fV+np
            · exact .inr aG
            · have p9:n.toNat*fV+np=0:=by omega
              rw[p9] at aW
              refine .inl ?_
              cases ax:cp.spot with
              | none=>rfl
              | some sp=>
                have e:cp.add 0=cp:=by unfold Addr.add;simp
                rw[e] at aW
                unfold World.cell? at aW
                simp only[ax,Option.isSome_some,if_true] at aW
                split at aW<;>cases aW
    · rename_i id off len cap k n ae aB
      rw[ae] at rx;rw[aB] at jR
      split at he<;>try(cases he;done)
      rename_i ak
      cases he
      obtain⟨A,c,b,sz,jA,bL,cq,eE,iE⟩:=rx.q9
      obtain⟨rfl,_⟩:=iE (by omega)
      have:=H.sized bL ak.2.2
      subst this
      have R:=a4.ptr (w:=w) (ok:=br base okin σ h) (σ:=σ) id (off+n.toNat) 0 b sz bL
      refine .pure H ?_ R
      simp[execOp,cL,Instr.indexAt,jR.jP,asIntOf,run_underlying hu,jA,ak.1,ak.2.1,run_sizeOf U,p2,Nat.add_mul]
    · cases he
  · rename_i n e hu
    split at J<;>try(cases J;done)
    rename_i bS s y j U h2 aA aT
    cases J
    have rx:=bI.ec aA
    have jR:=bI.ec aT
    simp only[evalOp] at he
    split at he
    · rename_i u k np ae aB
      rw[ae] at rx;rw[aB] at jR
      split at he<;>try(cases he;done)
      rename_i ak
      obtain⟨cs,pb,he⟩:=Option.bind_eq_some_iff.1 he
      obtain⟨p,aF,he⟩:=Option.map_eq_some_iff.1 he
      cases he
      obtain⟨cp,ey,jA,bL,cq⟩:=rx.y6
      refine .pure H (cv:= .pointer (some (cp.add (np.toNat*s)))) ?_ (IE bL cq pb aF)
      simp[execOp,cL,Instr.indexAt,jR.jP,asIntOf,run_underlying hu,jA,Instr.sureAddr,ak.1,ak.2,run_sizeOf h2]
    · rename_i id idx cN k np ae aB
      rw[ae] at rx;rw[aB] at jR
      split at he<;>try(cases he;done)
      rename_i ak
      cases he
      obtain⟨b,b_,jA,bL⟩:=rx.wK
      have:=a4.ptr (w:=w) (ok:=br base okin σ h) (σ:=σ) id idx (cN+np.toNat*s) b b_ bL
      refine .pure H ?_ this
      simp[execOp,cL,Instr.indexAt,jR.jP,asIntOf,run_underlying hu,jA,Instr.sureAddr,ak.1,ak.2,run_sizeOf h2,p2,Nat.add_assoc]
    · cases he
 case index t x i=>
  simp only[fU] at J
  split at J<;>try(cases J;done)
  · rename_i n e hu
    split at J<;>try(cases J;done)
    rename_i bS s y j U h2 aA aT
    split at J<;>try(cases J;done)
    rename_i cj
    cases J
    have rx:=bI.ec aA
    have jR:=bI.ec aT
    simp only[evalOp] at he
    split at he<;>try(cases he;done)
    rename_i cs k np ae aB
    rw[ae] at rx;rw[aB] at jR
    split at he<;>try(cases he;done)
    rename_i ak
    obtain⟨jO,pb,he⟩:=Option.bind_eq_some_iff.1 he
    obtain⟨u,aF,he⟩:=Option.map_eq_some_iff.1 he
    cases he
    obtain⟨vs,ev,bG,bD⟩:=rx.ur
    obtain⟨cv,aq,av⟩:=H7 (P:=P) U h2 cj bG bD pb aF
    exact .pure H (by simp[execOp,cL,Instr.index,jR.jP,asIntOf,run_underlying hu,ev,ak.1,ak.2,run_sizeOf h2,aq]) av
  · rename_i hu
    split at J<;>try(cases J;done)
    rename_i y j U h2
    cases J
    have rx:=bI.ec U
    have jR:=bI.ec h2
    simp only[evalOp] at he
    split at he<;>try(cases he;done)
    rename_i str k np ae aB
    rw[ae] at rx;rw[aB] at jR
    split at he<;>try(cases he;done)
    rename_i ak
    obtain⟨IN,ad,he⟩:=Option.map_eq_some_iff.1 he
    cases he
    refine .pure H (cv:= .int .u8 IN.toNat) ?_ (.val _ _ (.int _ _))
    simp[execOp,cL,Instr.index,jR.jP,asIntOf,run_underlying hu,rx.wJ,ak,ad]
 case extract x i=>
  obtain⟨y,aQ,rfl⟩:=Option.map_eq_some_iff.1 J
  simp only[evalOp] at he
  split at he<;>try(cases he;done)
  rename_i vs ae
  obtain⟨u,hu,he⟩:=Option.map_eq_some_iff.1 he
  cases he
  have rx:=bI.ec aQ
  rw[ae] at rx
  obtain⟨cs,ev,bG,bD⟩:=rx.HW
  obtain⟨ab,rfl⟩:=List.getElem?_eq_some_iff.1 hu
  have bF:i<cs.size:=by omega
  exact .pure H (by simp[execOp,cL,Instr.extract,ev,bF]) (bD i ab bF)
 case call pc=>
  obtain⟨callee,args,argTypes⟩:=pc
  cases callee with
  | value f=>
    simp only[fU] at J
    split at J<;>try(cases J;done)
    cases J
    simp only[evalOp] at he;cases he
  | invoke _ _=>simp only[fU] at J;cases J
  | builtin b=>
    cases b<;>try(simp only[fU] at J;cases J;done)
    case append=>
     obtain⟨bd,cv,aP,aq,av,aW,bT,fj⟩:=R6 (ty:=o.type) H bI aR J he
     exact ⟨bd,cv,aP,.inl (by simp[execOp,cL,resolve,invoke,builtin,aq]),av,aW,bT,fj⟩
    case len=>
     simp only[fU] at J
     split at J<;>try(cases J;done)
     rename_i t X aN fy
     have sD:args= #[X]:=by rw[<-Array.toList_inj];exact fy
     subst sD
     split at J<;>try(cases J;done)
     · rename_i e x hu ae
       cases J
       have rx:=bI.ec ae
       simp only[evalOp] at he
       split at he
       · rename_i xs ex an
         simp only[if_true] at he
         cases he
         rw[an] at rx
         have aR:=rx.q8
         generalize kL:a.eval X=jy at aR rx
         cases aR with
         | sl _ _ A c _ _ _ _ _ _ _ _=>
           refine .pure H (cv:= .int .i64 xs.length) ?_ (.val _ _ (.int _ _))
           simp[execOp,cL,resolve,invoke,builtin,Builtin.len_,aN,run_underlying hu,kL,goInt]
       · rename_i id off len cap an
         simp only[if_true] at he
         cases he
         rw[an] at rx
         obtain⟨A,c,b,sz,jA,_⟩:=rx.q9
         refine .pure H (cv:= .int .i64 len) ?_ (.val _ _ (.int _ _))
         simp[execOp,cL,resolve,invoke,builtin,Builtin.len_,aN,run_underlying hu,jA,goInt]
       · simp only[Bool.false_eq_true,if_false] at he;cases he
       · cases he
     · rename_i x hu ae
       cases J
       have rx:=bI.ec ae
       simp only[evalOp] at he
       split at he
       · simp only[Bool.true_eq_false,if_false] at he;cases he
       · simp only[Bool.true_eq_false,if_false] at he;cases he
       · rename_i s an
         simp only[if_true] at he
         cases he
         rw[an] at rx
         refine .pure H (cv:= .int .i64 s.size) ?_ (.val _ _ (.int _ _))
         simp[execOp,cL,resolve,invoke,builtin,Builtin.len_,aN,run_underlying hu,rx.wJ,goInt]
       · cases he
    case min=>
     obtain⟨xs,ou,rfl⟩:=Option.map_eq_some_iff.1 J
     obtain⟨bG,bD⟩:=sx bI ou
     simp only[evalOp] at he
     obtain⟨u,hu,he⟩:=Option.map_eq_some_iff.1 he
     cases he
     cases xs with
     | nil=>simp[j2] at hu
     | cons x xs=>
       cases fy:args.toList with
       | nil=>rw[fy] at bG;simp at bG
       | cons X Dh=>
         rw[fy] at bG
         have r0:=bD 0 (by simp) (by simp[fy])
         simp only[fy,List.getElem_cons_zero] at r0
         simp only[List.map_cons] at hu
         cases ae:x.ev G F<;>rw[ae] at hu<;>try(simp[j2] at hu;done)
         rename_i k n
         rw[ae] at r0
         obtain⟨cv,aq,av⟩:=IB (P:=P) (w:=w) (σ:=σ) (br base okin σ h) (xs.map (aS.ev G F)) k n (Dh.map a.eval) v hu (by simpa using bG) (fun i ab bV=>by
          have:=bD (i+1) (by simpa using ab) (by simpa[fy] using bV)
          simpa[fy] using this)
         refine .pure H ?_ av
         simp[execOp,cL,resolve,invoke,builtin,Builtin.min_,fy,r0.jP,aq]
    case max=>
     obtain⟨xs,ou,rfl⟩:=Option.map_eq_some_iff.1 J
     obtain⟨bG,bD⟩:=sx bI ou
     simp only[evalOp] at he
     obtain⟨u,hu,he⟩:=Option.map_eq_some_iff.1 he
     cases he
     cases xs with
     | nil=>simp[j2] at hu
     | cons x xs=>
       cases fy:args.toList with
       | nil=>rw[fy] at bG;simp at bG
       | cons X Dh=>
         rw[fy] at bG
         have r0:=bD 0 (by simp) (by simp[fy])
         simp only[fy,List.getElem_cons_zero] at r0
         simp only[List.map_cons] at hu
         cases ae:x.ev G F<;>rw[ae] at hu<;>try(simp[j2] at hu;done)
         rename_i k n
         rw[ae] at r0
         obtain⟨cv,aq,av⟩:=IC (P:=P) (w:=w) (σ:=σ) (br base okin σ h) (xs.map (aS.ev G F)) k n (Dh.map a.eval) v hu (by simpa using bG) (fun i ab bV=>by
          have:=bD (i+1) (by simpa using ab) (by simpa[fy] using bV)
          simpa[fy] using this)
         refine .pure H ?_ av
         simp[execOp,cL,resolve,invoke,builtin,Builtin.max_,fy,r0.jP,aq]
end
end Go.Eng
